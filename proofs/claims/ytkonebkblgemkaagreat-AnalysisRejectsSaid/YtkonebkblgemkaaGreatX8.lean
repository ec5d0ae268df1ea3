/-
  Texts of this proof, one after the other.
  Conditions: none.
-/
import Derived.Test.YtkonebkblgemkaaGreatX7
set_option linter.unusedVariables false
set_option linter.unusedSimpArgs false
set_option maxRecDepth 100000
set_option maxHeartbeats 4000000
noncomputable section
section
namespace Go.Proofs.YtkonebkblgemkaaGreat
open Go.Pv Go.M15 Go.M10
def c6Y(xs:List IV)(h:Heap)(K:KT):Prop:=match xs with
 | [.int .i64 n,.int .i64 m]=>(0<m/\m<4611686018427387904)/\K (.int .i64 (n%m)) h
 |_=>False
theorem g1K(n m:Int)(h:Heap)(Q:KT):dF (aV noC) env 12 dV bT bT [.int .i64 n,.int .i64 m] h Q=(
 aC (!m==0) (aM (decide (Int.tmod n m<0)) (Q (.int .i64 (wW (Int.tmod n m+m))) h) (Q (.int .i64 (Int.tmod n m)) h))):=by kernel_rfl
theorem e9E: ∀xs h Q,c6Y xs h Q->aU env 12 xs h Q:=by
 intro xs h Q g;unfold c6Y at g;split at g
 ·rename_i n m;refine aS (rW env) (g1K n m h Q) ?_;delta wW;obtain⟨j,g⟩:=g;have h1:=h8R n (Int.dvd_refl m);have l:=Go.M13.a2X n m j.1;refine aA (by simp;omega) (aD (fun i=>cO g ?_) (fun i=>cO g ?_))
  ·simp only [decide_eq_true_eq]at i;rw [h0X _ (by omega)];congr 1;omega
  ·simp only [decide_eq_false_iff_not]at i;congr 1;omega
 ·exact g.elim
def d5W:=bB 12 c6Y noC
theorem d5X:aT env d5W:=aI e9E (rW env)
def c6Z(xs:List IV)(h:Heap)(K:KT):Prop:=match xs with
 | [.int .i64 n,.int .i64 raw]=>bR raw/\∀w:Int,bR w->K (.int .i64 w) h
 |_=>False
theorem g1L(n g:Int)(h:Heap)(Q:KT):dF (aV d5W) env 35 dV bT bT [.int .i64 n,.int .i64 g] h Q=(
 ((0:Int)<24/\(24:Int)<4611686018427387904)/\aM (decide (n% (24:Int)<10)) (aC (decide (0<=n% (24:Int)) &&decide (n% (24:Int)<10)) (aK .i64 [iI 0,iI 1,iI (-1),iI 2,iI (-9223372036854775808),iI 9223372036854775807,iI 4294967296,iI (-2147483648),iI 63,iI 64] ((n% (24:Int)).toNat*1) fun i=>Q (.int .i64 i) h)) (aM (decide (n% (24:Int)<22)) (((0:Int)<17/\(17:Int)<4611686018427387904)/\Q (.int .i64 (wW (wW (Int.tdiv n 24)% (17:Int)-6))) h) (Q (.int .i64 g) h))):=by kernel_rfl
theorem e9F: ∀xs h Q,c6Z xs h Q->aU env 35 xs h Q:=by
 intro xs h Q g;unfold c6Z at g;split at g
 ·rename_i n i;refine aS (d5X) (g1L n i h Q) ?_;delta wW iI;obtain⟨p,g⟩:=g;refine And.intro (by omega) (aD (fun l=>?_) (fun l=>aD (fun hd=>And.intro (by omega) (g _ ?_)) (fun hd=>g _ p)))
  ·rw [decide_eq_true_eq]at l;refine aA (by simp;omega) ?_;rw [h1W];show aK .i64 (Go.M13.c5X.map (IV.int .i64)) _ _;have j:(n%24).toNat<Go.M13.c5X.length:=by have:Go.M13.c5X.length=10:=rfl;omega
   refine gH j (g _ ?_);have m: ∀x∈Go.M13.c5X,bR x:=by decide
   exact m _ (h1B j)
  ·have:=h0X (IntKind.i64.wrap (n.tdiv 24)%17-6) (by omega);rw [this];unfold bR
   omega
 ·exact g.elim
def d5Y:=bB 35 c6Z d5W
theorem d5Z:aT env d5Y:=aI e9F (d5X)
def c1N(xs:List IV)(h:Heap)(K:KT):Prop:=match xs with
 | [.ptr id 0]=> ∃(r:Nat)(w:Int),RN h id r w/\∀(n:Int)(h2:Heap),bR n->(r=0->n=0)->RN h2 id (r-1) w->HF id h h2->K (.int .i64 n) h2
 |_=>False
theorem f3M(id:Nat)(h:Heap)(Q:KT):dF (aV d5Y) env 39 dV bT bT [.ptr id 0] h Q=(
 aF h id fun r0=>bH 1 r0 0 fun(L:Option Nat)(G z:Nat)(c4:List IV)=>aM ((z:Int)==0) (Q (.int .i64 0) h) (aF h id fun u=>bH 1 u 0 fun(K:Option Nat)(D A:Nat)(y:List IV)=>aC (true&&decide (0< (A:Int))) (aK .i64 y 0 fun m=>aF h id fun p=>bH 1 p 0 fun(j:Option Nat)(r g:Nat)(l:List IV)=>aC (true&& (decide (1<=(g:Int)) &&decide ((g:Int)<=(g:Int)))) (aF h id fun i=>aC (Nat.ble 1 i.length) (Q (.int .i64 m) (h.set id (IObj.cells (IV.vslice j (r- (g- (g:Int).toNat)*1) ((g:Int).toNat-1) 1 (List.take (((g:Int).toNat-1)*1) (List.drop 1 l))::List.drop 1 i)))))))):=by kernel_rfl
theorem f3N: ∀xs h Q,c1N xs h Q->aU env 39 xs h Q:=by
 intro xs h Q g;unfold c1N at g;split at g
 ·rename_i id;obtain⟨r,w,⟨m,z,e,l,p,u,j⟩,g⟩:=g;refine aS (d5Z) (f3M id h Q) ?_;refine aB j (f2Q ?_);refine aD (fun c=>g 0 h (by unfold bR;omega) (fun _=>rfl) ?_ HF.refl) (fun c=>aB j (f2Q ?_))
  ·have D:l.length=0:=by simpa using c
   have h1:r=0:=by omega
   subst h1;exact⟨m,z,e,l,p,u,j⟩
  have y:0<l.length:=by
   simp at c;exact Nat.pos_of_ne_zero (by simpa using c)
  refine aA (by simp;omega) (gH (i:=0) y (aB j (f2Q (aA (by simp;omega) (aB j (aA (by simp) ?_))))));refine g _ _ (p _ (h1B y)) (fun q=>by omega) ⟨m,z,e- (l.length- ((l.length:Int)).toNat)*1,l.drop 1,fun x A=>p x (List.mem_of_mem_drop A),by rw [h5N];omega,?_⟩ HF.set;refine(aH (h:=h)).trans ?_;simp;exact h1H (by simp)
 ·exact g.elim
def c1O:=bB 39 c1N d5Y
theorem c7A:aT env c1O:=aI f3N (d5Z)
def f3O(xs:List IV)(h:Heap)(K:KT):Prop:=match xs with
 | [.int .i64 f]=>(f=0\/f=1)/\K (.vslice none 0 (bN f).length 1 ((bN f).map IV.str)) h
 |_=>False
theorem g5X(f:Int)(h:Heap)(Q:KT):dF (aV c1O) env 153 dV bT bT [.int .i64 f] h Q=(
 aM (f==0) (Q (.vslice none 0 4 1 [IV.str [120],IV.str [121],IV.str [105],IV.str [106]]) h) (Q (.vslice none 0 2 1 [IV.str [110],IV.str [105]]) h)):=by kernel_rfl
theorem g5Y: ∀xs h Q,f3O xs h Q->aU env 153 xs h Q:=by
 intro xs h Q g;unfold f3O at g;split at g
 ·rename_i f;refine aS (c7A) (g5X f h Q) ?_;obtain⟨i,g⟩:=g;rcases i with rfl|rfl
  ·exact aD (fun _=>aA rfl g) (fun c=>by cases c)
  ·exact aD (fun c=>by cases c) (fun _=>aA rfl g)
 ·exact g.elim
def f3P:=bB 153 f3O c1O
theorem e9G:aT env f3P:=aI g5Y (c7A)
def b6A(d:Nat)(xs:List IV)(h:Heap)(K:KT):Prop:=match xs with
 | [.ptr id 0,.int .i64 f,.int .i64 dp]=> ∃(r:Nat)(w:Int),RN h id r w/\(f=0\/f=1)/\(0<=dp/\dp<=4/\4-dp< (d:Int))/\
  (∀(k n:Int)(nm:List UInt8)(op:Int)(ks:List E)(g:Nat)(h2:Heap),gY f (4-dp).toNat r g (.mk k n nm op ks)->GN h id g w h2->K (.agg [.int .i64 k,.int .i64 n,.str nm,.int .i64 op,.vslice none 0 ks.length 5 (aW ks)]) h2)
 |_=>False
abbrev b6B(dp:Int)(g:Nat):=0<=wW (dp+1)/\wW (dp+1)<=4/\(4:Int)-wW (dp+1)< (g:Int)
def b1K(n:Int):=wW (Int.tdiv n 16)% (1000:Int)
def d6A(Q:KT)(n:Int)(h2:Heap):=(bR n/\∀(w:Int),bR w->Q (.agg [.int .i64 1,iI w,IV.str [],iI 0,IV.vslice none 0 0 5 []]) h2)
def d6B(f n:Int):=decide (0<=Int.tmod (b1K n) (↑((bN f).length):Int)) &&decide (Int.tmod (b1K n) (↑((bN f).length):Int)< (↑((bN f).length):Int))
def b6C(dp:Int):=((4:Int)-wW (dp+1)).toNat
def d6C(f n:Int):=(Int.tmod (b1K n) (↑((bN f).length):Int)).toNat*1
abbrev b1L(f:Int):=f=0\/f=1
def d6D(f:Int):=!(↑((bN f).length):Int)==0
def f3Q(n:Int):=decide (0<=Int.tmod (b1K n) 2) &&decide (Int.tmod (b1K n) 2<2)
def f3R(n k op:Int)(nm:List UInt8)(ks:List E):=[iI k,iI n,IV.str nm,iI op,IV.vslice none 0 ks.length 5 (aW ks)]
theorem g1M(K:Nat)(id:Nat)(f dp:Int)(h:Heap)(Q:KT):dF (aV (bB 81 (b6A K) f3P)) env 81 dV bT bT [.ptr id 0,.int .i64 f,.int .i64 dp] h Q=(
 ∃(r:Nat),∃(w:Int),RN h id r w/\∀(n:Int)(h2:Heap),bR n->(r=0->n=0)->RN h2 id (r-1) w->HF id h h2->(b1L f)/\((0:Int)<16/\(16:Int)<4611686018427387904)/\((0:Int)<1000/\(1000:Int)<4611686018427387904)/\aM (decide (n% (16:Int)<4)) (aM (Int.tmod (n% (16:Int)) 2==0) (aC (d6D f) (aC (d6B f n) (bZ (List.map IV.str (bN f)) (d6C f n) fun(Z:List UInt8)=>Q (.agg [.int .i64 2,iI 0,IV.str Z,iI 0,IV.vslice none 0 0 5 []]) h2))) (aM (decide (dp>3)) (aM (decide (n% (16:Int)>8)) (aC (d6D f) (aC (d6B f n) (bZ (List.map IV.str (bN f)) (d6C f n) fun(Y:List UInt8)=>Q (.agg [.int .i64 2,iI 0,IV.str Y,iI 0,IV.vslice none 0 0 5 []]) h2))) (d6A Q n h2)) (d6A Q n h2))) (aM (decide (dp>3)) (aM (Int.tmod (n% (16:Int)) 2==0) (aC (d6D f) (aC (d6B f n) (bZ (List.map IV.str (bN f)) (d6C f n) fun(O:List UInt8)=>Q (.agg [.int .i64 2,iI 0,IV.str O,iI 0,IV.vslice none 0 0 5 []]) h2))) (aM (decide (dp>3)) (aM (decide (n% (16:Int)>8)) (aC (d6D f) (aC (d6B f n) (bZ (List.map IV.str (bN f)) (d6C f n) fun(T:List UInt8)=>Q (.agg [.int .i64 2,iI 0,IV.str T,iI 0,IV.vslice none 0 0 5 []]) h2))) (d6A Q n h2)) (d6A Q n h2))) (aM (decide (n% (16:Int)< (6:Int))) (aC (f3Q n) (bZ [IV.str [97],IV.str [98]] ((Int.tmod (b1K n) 2).toNat*1) fun(X:List UInt8)=> ∃(r:Nat),∃(w:Int),RN h2 id r w/\(b1L f)/\(b6B dp K)/\∀(k n:Int)(nm:List UInt8)(op:Int)(ks:List E)(j:Nat)(g:Heap),gY f (b6C dp) r j (E.mk k n nm op ks)->GN h2 id j w g->Q (.agg [.int .i64 3,iI 0,IV.str X,iI 0,IV.vslice none 0 1 5 (f3R n k op nm ks)]) g)) (aM (decide (n% (16:Int)<7)) (∃(r:Nat),∃(w:Int),RN h2 id r w/\(b1L f)/\(b6B dp K)/\∀(k n:Int)(nm:List UInt8)(op:Int)(ks:List E)(j:Nat)(g:Heap),gY f (b6C dp) r j (E.mk k n nm op ks)->GN h2 id j w g-> ∃(r:Nat),∃(w:Int),RN g id r w/\(b1L f)/\(b6B dp K)/\∀(y u:Int)(l:List UInt8)(m:Int)(i:List E)(j:Nat)(h2:Heap),gY f (b6C dp) r j (E.mk y u l m i)->GN g id j w h2-> ∃(r:Nat),∃(w:Int),RN h2 id r w/\(b1L f)/\(b6B dp K)/\∀(L p:Int)(A:List UInt8)(G:Int)(z:List E)(j:Nat)(D:Heap),gY f (b6C dp) r j (E.mk L p A G z)->GN h2 id j w D->Q (.agg [.int .i64 5,iI 0,IV.str [],iI 0,IV.vslice none 0 3 5 [iI k,iI n,IV.str nm,iI op,IV.vslice none 0 ks.length 5 (aW ks),iI y,iI u,IV.str l,iI m,IV.vslice none 0 i.length 5 (aW i),iI L,iI p,IV.str A,iI G,IV.vslice none 0 z.length 5 (aW z)]]) D) (aM (decide (n% (16:Int)<9)) (aC (f3Q n) (aK .i64 [iI 20,iI 21] ((Int.tmod (b1K n) 2).toNat*1) fun V=> ∃(r:Nat),∃(w:Int),RN h2 id r w/\(b1L f)/\(b6B dp K)/\∀(k n:Int)(nm:List UInt8)(op:Int)(ks:List E)(j:Nat)(g:Heap),gY f (b6C dp) r j (E.mk k n nm op ks)->GN h2 id j w g->Q (.agg [.int .i64 4,iI 0,IV.str [],iI V,IV.vslice none 0 1 5 (f3R n k op nm ks)]) g)) (∃(r:Nat),∃(w:Int),RN h2 id r w/\(b1L f)/\(b6B dp K)/\∀(k u:Int)(nm:List UInt8)(op:Int)(ks:List E)(j:Nat)(g:Heap),gY f (b6C dp) r j (E.mk k u nm op ks)->GN h2 id j w g-> ∃(r:Nat),∃(w:Int),RN g id r w/\(b1L f)/\(b6B dp K)/\∀(y p:Int)(l:List UInt8)(m:Int)(i:List E)(j:Nat)(h2:Heap),gY f (b6C dp) r j (E.mk y p l m i)->GN g id j w h2->Q (.agg [.int .i64 4,iI 0,IV.str [],iI (wW ((4:Int)+Int.tmod (b1K n) 15)),IV.vslice none 0 2 5 [iI k,iI u,IV.str nm,iI op,IV.vslice none 0 ks.length 5 (aW ks),iI y,iI p,IV.str l,iI m,IV.vslice none 0 i.length 5 (aW i)]]) h2)))))):=by kernel_rfl
theorem g1N: ∀d xs h Q,b6A d xs h Q->aU env 81 xs h Q:=by
 intro d
 induction d with
 |zero=>
  intro xs h Q i;unfold b6A at i;split at i
  ·rename_i id f dp;obtain⟨r,w,hr,A,hd,i⟩:=i;have h1:=hd.2.1;have h2:=hd.2.2;omega
  ·exact i.elim
 |succ dd ih=>
  intro xs h Q i;unfold b6A at i;split at i
  ·rename_i id f dp;obtain⟨r,w,hr,A,hd,i⟩:=i;refine aS (aI ih (e9G)) (g1M dd id f dp h Q) ?_;delta b6B b1K d6A d6B b6C d6C b1L d6D f3Q f3R wW iI;obtain⟨b1,b2,b6⟩:=hd;refine⟨r,w,hr,fun n h2 hn hz g1 g2=>⟨A,⟨by decide,by decide⟩,⟨by decide,by decide⟩,?_⟩⟩;have hg:GN h id (r-1) w h2:=⟨g1,g2⟩;have a3:n≠0->1<=r:=fun q=>by
    rcases h6C r with j|j
    ·exact absurd (hz j) q
    ·exact j
   have a9:0< (bN f).length:=by rcases A with rfl|rfl<;>decide
   have L:0<=IntKind.i64.wrap (Int.tdiv n 16)%1000:=h3K _ (by decide);generalize IntKind.i64.wrap (Int.tdiv n 16)%1000=m at L⊢;have t1:0<=Int.tmod m ((bN f).length:Int)/\Int.tmod m ((bN f).length:Int)< (bN f).length:=by
    rw [h3N L];exact⟨h3K _ (by omega),h3J _ (by omega)⟩
   have t2:0<=Int.tmod m 2/\Int.tmod m 2<2:=by
    rw [h3N L];omega
   have t3:0<=Int.tmod m 15/\Int.tmod m 15<15:=by
    rw [h3N L];omega
   generalize Int.tmod m 2=m2 at t2⊢;generalize Int.tmod m 15=m15 at t3⊢;generalize Int.tmod m ((bN f).length:Int)=ml at t1⊢;have a0: ∀s∈bN f,Q (IV.agg [IV.int .i64 2,IV.int .i64 0,IV.str s,IV.int .i64 0,IV.vslice none 0 0 5 []]) h2:=fun s hs=>
    i 2 0 s 0 [] (r-1) h2 ⟨⟨.inr (.inl ⟨rfl,rfl,rfl,rfl,hs⟩),trivial⟩,h1N _,Nat.sub_le _ _,h1N _⟩ hg
   have var:aC (!(((bN f).length:Int)==0)) (aC (decide (0<=ml) &&decide (ml< ((bN f).length:Int))) (bZ ((bN f).map IV.str) (ml.toNat*1) fun s=>Q (IV.agg [IV.int .i64 2,IV.int .i64 0,IV.str s,IV.int .i64 0,IV.vslice none 0 0 5 []]) h2)):=
    aA (by simp only [h2K,beq_eq_false_iff_ne];omega) (aA (by simp;omega) (a3R (by omega) a0))
   have K:n≠0->bR n/\∀w:Int,bR w->Q (IV.agg [IV.int .i64 1,IV.int .i64 w,IV.str [],IV.int .i64 0,IV.vslice none 0 0 5 []]) h2:=fun q=>⟨hn,fun w hw=>
    i 1 w [] 0 [] (r-1) h2 ⟨⟨.inl ⟨rfl,rfl,rfl,rfl,hw⟩,trivial⟩,h1N _,Nat.sub_le _ _,by have:=a3 q;simp [E.cost,Es.cost];omega⟩ hg⟩
   refine aD (fun c1=>aD (fun _=>var) (fun c2=>?_)) (fun c1=>?_)
   ·have y:n≠0:=fun q=>by rw [q]at c2;cases c2
    exact aD (fun _=>aD (fun _=>var) (fun _=>K y)) (fun _=>K y)
   rw [decide_eq_false_iff_not]at c1;have y:n≠0:=fun q=>by rw [q]at c1;exact c1 (by decide)
   have b0:=a3 y;refine aD (fun _=>aD (fun _=>var) (fun _=>aD (fun _=>aD (fun _=>var) (fun _=>K y)) (fun _=>K y))) (fun c3=>?_);rw [decide_eq_false_iff_not]at c3;have a6:IntKind.i64.wrap (dp+1)=dp+1:=h0X _ (by omega);rw [a6];have u:0<=dp+1/\dp+1<=4/\4- (dp+1)< (dd:Int):=by omega
   have eD:(4-dp).toNat=(4- (dp+1)).toNat+1:=by omega
   have eR:r=(r-1)+1:=by omega
   rw [eD]at i;generalize(4- (dp+1)).toNat=D at i⊢;rw [eR]at i;have T: ∀(k0 G:Int)(nm0:List UInt8),a6Y f k0 0 nm0 G 1-> ∀(a:E)(g:Nat)(h3:Heap),gY f D (r-1) g a->GN h2 id g w h3->Q (IV.agg [IV.int .i64 k0,IV.int .i64 0,IV.str nm0,IV.int .i64 G,IV.vslice none 0 1 5 (aW [a])]) h3:=
    fun k0 G nm0 hd a g h3 z p=>i k0 0 nm0 G [a] g h3 (gY.node (mV.snoc mV.nil z) hd) (hg.trans p)
   have a2: ∀(a b:E)(g j:Nat)(h3 h4:Heap),gY f D (r-1) g a->gY f D g j b->GN h2 id g w h3->GN h3 id j w h4->Q (IV.agg [IV.int .i64 4,IV.int .i64 0,IV.str [],IV.int .i64 (IntKind.i64.wrap (4+m15)),IV.vslice none 0 2 5 (aW [a,b])]) h4:=
    fun a b g j h3 h4 z Y p O=>i 4 0 [] _ [a,b] j h4 (gY.node (mV.snoc (mV.snoc mV.nil z) Y) (.inr (.inr (.inr (.inl ⟨rfl,rfl,rfl,.inl ⟨rfl,by rw [h0X _ (by omega)];omega,by rw [h0X _ (by omega)];omega⟩⟩))))) ((hg.trans p).trans O)
   have a1: ∀(a b c:E)(g j q3:Nat)(h3 h4 Z:Heap),gY f D (r-1) g a->gY f D g j b->gY f D j q3 c->GN h2 id g w h3->GN h3 id j w h4->GN h4 id q3 w Z->Q (IV.agg [IV.int .i64 5,IV.int .i64 0,IV.str [],IV.int .i64 0,IV.vslice none 0 3 5 (aW [a,b,c])]) Z:=
    fun a b c g j q3 h3 h4 Z z Y p3 p O g5=>i 5 0 [] 0 [a,b,c] q3 Z (gY.node (mV.snoc (mV.snoc (mV.snoc mV.nil z) Y) p3) (.inr (.inr (.inr (.inr ⟨rfl,rfl,rfl,rfl,rfl⟩))))) (((hg.trans p).trans O).trans g5)
   refine aD (fun _=>aA (by simp;omega) (a3R (l:=oW) (show m2.toNat*1<2 by omega) fun s hs=>?_)) (fun _=>aD (fun _=>?_) (fun _=>aD (fun _=>aA (by simp;omega) (f2W (l:=[20,21]) (show m2.toNat*1<2 by omega) fun s hs=>?_)) (fun _=>?_)))
   ·exact⟨r-1,w,g1,A,u,fun k1 n1 nm1 V X g h3 z p=>T 3 0 s (.inr (.inr (.inl ⟨rfl,rfl,rfl,rfl,hs⟩))) _ g h3 z p⟩
   ·exact⟨r-1,w,g1,A,u,fun k1 n1 nm1 V X g h3 z p=>⟨g,w,p.1,A,u,fun k2 n2 a4 a8 a5 j h4 Y O=>⟨j,w,O.1,A,u,fun k3 n3 b5 b3 b4 q3 Z p3 g5=>a1 _ _ _ g j q3 h3 h4 Z z Y p3 p O g5⟩⟩⟩
   ·have a7:20<=s/\s<=21:=by simp only [h2O,h4G,or_false]at hs;omega
    exact⟨r-1,w,g1,A,u,fun k1 n1 nm1 V X g h3 z p=>T 4 s [] (.inr (.inr (.inr (.inl ⟨rfl,rfl,rfl,.inr ⟨rfl,a7⟩⟩)))) _ g h3 z p⟩
   ·exact⟨r-1,w,g1,A,u,fun k1 n1 nm1 V X g h3 z p=>⟨g,w,p.1,A,u,fun k2 n2 a4 a8 a5 j h4 Y O=>a2 _ _ g j h3 h4 z Y p O⟩⟩
  ·exact i.elim
def b6D:=bB 81 (fun xs h K=> ∃d,b6A d xs h K) f3P
theorem d6E:aT env b6D:=aI (fun xs h Q g=>g.elim fun d g=>g1N d xs h Q g) (e9G)
def g1O(id:Nat)(f dp g:Int)(r:Nat)(w:Int)(h:Heap):Inv':= .or
 (hJ (Nat×Nat×Int×Heap) (fun x=>[(0,.v (.ptr id 0)),(1,.v (.int .i64 f)),(2,.v (.int .i64 dp)),(9,.v .nilslice),(10,.v (.int .i64 x.1))]) (fun _=>[]) (fun x=>x.2.2.2) (fun x=>x.1<=10/\fQ f dp.toNat r x.2.1 w x.2.2.1 []/\GN h id x.2.1 x.2.2.1 x.2.2.2) (fun x=>x.1))
 (hJ (Nat×Nat×Int×Heap×List S×Nat) (fun x=>[(0,.v (.ptr id 0)),(1,.v (.int .i64 f)),(2,.v (.int .i64 dp)),(9,.v (.vslice (some x.2.2.2.2.2) (x.2.2.2.2.1.length*17) x.2.2.2.2.1.length 17 (aX x.2.2.2.2.1))),(10,.v (.int .i64 x.1))]) (fun _=>[]) (fun x=>x.2.2.2.1) (fun x=>x.1+x.2.2.2.2.1.length<=10/\fQ f dp.toNat r x.2.1 w x.2.2.1 x.2.2.2.2.1/\GN h id x.2.1 x.2.2.1 x.2.2.2.1/\x.2.2.2.1.get x.2.2.2.2.2= .tip (x.2.2.2.2.1.length*17)/\h.next<=x.2.2.2.2.2/\x.2.2.2.2.2<x.2.2.2.1.next) (fun x=>x.1))
def g1P(id:Nat)(f dp:Int)(r:Nat)(w:Int)(h:Heap):Inv':=hJ (Int×Int×Heap) (fun x=>[(0,.v (.ptr id 0)),(1,.v (.int .i64 f)),(2,.v (.int .i64 dp)),(6,.l 6 0),(8,.v (.vslice none 0 (bN f).length 1 ((bN f).map IV.str))),(9,.v (.int .i64 x.1)),(10,.v (.int .i64 x.2.1))])
 (fun _=>[(6,[.int .i64 0,.str [],.str [],.int .i64 0,.int .i64 0,.int .i64 0,.str [],.int .i64 0,.nilslice,.int .i64 0,.int .i64 0,.str [],.int .i64 0,.nilslice,.nilslice,.nilslice,.nilslice])]) (fun x=>x.2.2)
 (fun x=>(0<=x.1/\x.1<1000)/\(0<=x.2.1/\x.2.1<16)/\(2<dp->x.2.1<8\/12<=x.2.1)/\(10<=w->x.2.1<10)/\GN h id (r-1) w x.2.2) (fun _=>0)
def a4K(d:Nat)(xs:List IV)(h:Heap)(K:KT):Prop:=match xs with
 | [.ptr id 0,.int .i64 f,.int .i64 dp,.int .i64 mo]=> ∃(r:Nat)(w:Int),(RN h id r w/\0<=w/\w<=10)/\(f=0\/f=1)/\(0<=dp/\dp<=3/\2*(3-dp)+1< (d:Int))/\(0<=mo/\mo<=10)/\
  (∀(l:List S)(g:Nat)(i:Int)(h2:Heap),fQ f dp.toNat r g w i l->GN h id g i h2->K (.vslice none 0 l.length 17 (aX l)) h2)
 |_=>False
def c1P(d:Nat)(xs:List IV)(h:Heap)(K:KT):Prop:=match xs with
 | [.ptr id 0,.int .i64 f,.int .i64 dp]=> ∃(r:Nat)(w:Int),(RN h id r w/\0<r/\0<=w/\w<=10)/\(f=0\/f=1)/\(0<=dp/\dp<=3/\2*(3-dp)< (d:Int))/\(∀(k:Int)(nm A:List UInt8)(n:Int)(T V:Int)(l:List UInt8)(p:Int)(i:List E)(O G:Int)(u:List UInt8)(m:Int)(j:List E)(g:List E)(y z:List S)(D:Nat)(L:Int)(h2:Heap),xG f dp.toNat r D w L (.mk k nm A n (.mk T V l p i) (.mk O G u m j) g y z)->GN h id D L h2->K (.agg [.int .i64 k,.str nm,.str A,.int .i64 n,.int .i64 T,.int .i64 V,.str l,.int .i64 p,.vslice none 0 i.length 5 (aW i),.int .i64 O,.int .i64 G,.str u,.int .i64 m,.vslice none 0 j.length 5 (aW j),.vslice none 0 g.length 5 (aW g),.vslice none 0 y.length 17 (aX y),.vslice none 0 z.length 17 (aX z)]) h2)
 |_=>False
def d6F(n k G K p z D l:Int)(nm A m r:List UInt8)(i j g:List E)(u y:List M10.S):=[iI k,IV.str nm,IV.str A,iI n,iI G,iI K,IV.str m,iI p,IV.vslice none 0 i.length 5 (aW i),iI z,iI D,IV.str r,iI l,IV.vslice none 0 j.length 5 (aW j),IV.vslice none 0 g.length 5 (aW g),IV.vslice none 0 u.length 17 (aX u),IV.vslice none 0 y.length 17 (aX
 y)]
def zP(f:Int):=TV.v (.int .i64 f)
def zQ(dp:Int):=TV.v (.int .i64 dp)
def zR(id:Nat):=TV.v (.ptr id 0)
def d1U:=TV.v IV.nilslice
abbrev f3S(dp:Int)(g:Nat):=0<=dp/\dp<=3/\(2:Int)*((3:Int)-dp)< (g:Int)
def f3T:=IV.vslice none 0 0 17 []
theorem g1Q(dd:Nat)(id:Nat)(f dp Y:Int)(r:Nat)(w:Int)(h:Heap)(Q:KT):dF (aV (bB 152 (c1P dd) (bB 80 (a4K dd) b6D))) env 80 dV (tK 4 (g1O id f dp Y r w h)) bT [.ptr id 0,.int .i64 f,.int .i64 dp,.int .i64 Y] h Q=(
 ∃(O:Nat),∃(a0:Int),RN h id O a0/\∀(n:Int)(h2:Heap),bR n->(O=0->n=0)->RN h2 id (O-1) a0->HF id h h2->(0<wW (Y+1)/\wW (Y+1)<4611686018427387904)/\((∃(x:Nat×Nat×Int×Heap),some (zR id)=some (zR id)/\some (zP f)=some (zP f)/\some (zQ dp)=some (zQ dp)/\some d1U=some d1U/\tI (n%wW (Y+1))=tI (x.1:Int)/\h2=x.2.2.2/\(x.1<=10/\fQ f dp.toNat r x.2.1 w x.2.2.1 []/\GN h id x.2.1 x.2.2.1 x.2.2.2)/\True) \/ ∃(x:Nat×Nat×Int×Heap×List M10.S×Nat),some (zR id)=some (zR id)/\some (zP f)=some (zP f)/\some (zQ dp)=some (zQ dp)/\some d1U=some (TV.v (.vslice (some x.2.2.2.2.2) (x.2.2.2.2.1.length*17) (x.2.2.2.2.1.length) 17 (aX x.2.2.2.2.1)))/\tI (n%wW (Y+1))=tI (x.1:Int)/\h2=((x.2.2).2).1/\(x.1+x.2.2.2.2.1.length<=10/\fQ f dp.toNat r x.2.1 w x.2.2.1 x.2.2.2.2.1/\GN h id x.2.1 (x.2.2.1) x.2.2.2.1/\Heap.get x.2.2.2.1 x.2.2.2.2.2=IObj.tip (x.2.2.2.2.1.length*17)/\Heap.next h<=Prod.snd x.2.2.2.2/\x.2.2.2.2.2<x.2.2.2.1.next)/\True)/\(∀(x:Nat×Nat×Int×Heap)(b:FF),x.1<=10/\fQ f dp.toNat r x.2.1 w ((x.2.2).1) []/\GN h id x.2.1 x.2.2.1 x.2.2.2->aM (decide ((x.1:Int)>0)) (aF x.2.2.2 id fun r0=>bH 1 r0 0 fun(i1:Option Nat)(e2 l3:Nat)(c4:List IV)=>aM (decide ((l3:Int)>0)) (∃(l:Nat),∃(j:Int),(RN x.2.2.2 id l j/\0<l/\0<=j/\j<=10)/\(f=0\/f=1)/\(f3S dp dd)/\∀(k:Int)(nm K:List UInt8)(n T V:Int)(A:List UInt8)(u:Int)(z:List E)(G X:Int)(m:List UInt8)(p:Int)(y i:List E)(D L:List M10.S)(r2:Nat)(Z:Int)(h2:Heap),xG f dp.toNat l r2 j Z (M10.S.mk k nm K n (E.mk T V A u z) (E.mk G X m p y) i D L)->GN ((x.2.2).2) id r2 Z h2->(∃(g:Nat×Nat×Int×Heap),some (zR id)=some (zR id)/\some (zP f)=some (zP f)/\some (zQ dp)=some (zQ dp)/\some (TV.v (.vslice (some (h2.next)) 17 1 17 (d6F n k T V u G X p nm K A m z y i D L)))=some d1U/\tI (wW ((x.1:Int)-1))=tI (g.1:Int)/\Heap.push h2 (IObj.tip 17)=g.2.2.2/\(g.1<=10/\fQ f dp.toNat r (g.2.1) w g.2.2.1 []/\GN h id g.2.1 g.2.2.1 g.2.2.2)/\g.1<x.1) \/ ∃(g:Nat×Nat×Int×Heap×List M10.S×Nat),some (zR id)=some (zR id)/\some (zP f)=some (zP f)/\some (zQ dp)=some (zQ dp)/\some (TV.v (.vslice (some (h2.next)) 17 1 17 (d6F n k T V u G X p nm K A m z y i D L)))=some (TV.v (.vslice (some g.2.2.2.2.2) ((g.2.2.2.2.1).length*17) g.2.2.2.2.1.length 17 (aX g.2.2.2.2.1)))/\tI (wW ((x.1:Int)- (1:Int)))=tI (g.1:Int)/\Heap.push h2 (IObj.tip 17)=g.2.2.2.1/\(g.1+g.2.2.2.2.1.length<=10/\fQ f dp.toNat r ((g.2).1) w g.2.2.1 g.2.2.2.2.1/\GN h id g.2.1 g.2.2.1 g.2.2.2.1/\Heap.get g.2.2.2.1 ((g.2.2.2.2).2)=IObj.tip (g.2.2.2.2.1.length*17)/\Heap.next h<=g.2.2.2.2.2/\g.2.2.2.2.2< (((g.2.2).2).1).next)/\g.1<x.1) (Q f3T x.2.2.2)) (Q f3T x.2.2.2))/\∀(x:Nat×Nat×Int×Heap×List M10.S×Nat)(b:FF),x.1+x.2.2.2.2.1.length<=10/\fQ f dp.toNat r x.2.1 w x.2.2.1 x.2.2.2.2.1/\GN h id x.2.1 x.2.2.1 x.2.2.2.1/\Heap.get ((((x.2).2).2).1) x.2.2.2.2.2=IObj.tip (x.2.2.2.2.1.length*17)/\Heap.next h<=x.2.2.2.2.2/\x.2.2.2.2.2< (x.2.2.2.1).next->aM (decide ((x.1:Int)>0)) (aF x.2.2.2.1 id fun r5=>bH 1 r5 0 fun(i6:Option Nat)(e7 l8:Nat)(c9:List IV)=>aM (decide ((l8:Int)>0)) (∃(l:Nat),∃(j:Int),(RN x.2.2.2.1 id l j/\0<l/\0<=j/\j<=10)/\(f=0\/f=1)/\(f3S dp dd)/\∀(k:Int)(nm K:List UInt8)(n T V:Int)(A:List UInt8)(u:Int)(z:List E)(G X:Int)(m:List UInt8)(p:Int)(y i:List E)(D L:List M10.S)(r2:Nat)(Z:Int)(h2:Heap),xG f dp.toNat l r2 j Z (M10.S.mk k nm K n (E.mk T V A u z) (E.mk G X m p y) i D L)->GN x.2.2.2.1 id r2 Z h2->dG h2 ((x.2.2.2.2).2) fun(a1:Nat)=>aC (Nat.beq a1 (x.2.2.2.2.1.length*17) &&Nat.ble ((x.2.2.2.2.1.length+1)*248) 140737488355328) ((∃(g:Nat×Nat×Int×Heap),some (zR id)=some (zR id)/\some (zP f)=some (zP f)/\some (zQ dp)=some (zQ dp)/\some (TV.v (.vslice (some x.2.2.2.2.2) (x.2.2.2.2.1.length*17+(17:Nat)) (x.2.2.2.2.1.length+1) 17 (aX x.2.2.2.2.1++(d6F n k T V u G X p nm K A m z y i D L))))=some d1U/\tI (wW ((x.1:Int)-1))=tI (g.1:Int)/\Heap.set h2 x.2.2.2.2.2 (IObj.tip (x.2.2.2.2.1.length*17+17))=((g.2).2).2/\(g.1<=10/\fQ f dp.toNat r g.2.1 w g.2.2.1 []/\GN h id g.2.1 g.2.2.1 g.2.2.2)/\g.1<x.1) \/ ∃(g:Nat×Nat×Int×Heap×List M10.S×Nat),some (zR id)=some (zR id)/\some (zP f)=some (zP f)/\some (zQ dp)=some (zQ dp)/\some (TV.v (.vslice (some x.2.2.2.2.2) (x.2.2.2.2.1.length*17+17) (x.2.2.2.2.1.length+1) 17 (aX x.2.2.2.2.1++(d6F n k T V u G X p nm K A m z y i D L))))=some (TV.v (.vslice (some (((((g.2).2).2).2).2)) (g.2.2.2.2.1.length*17) g.2.2.2.2.1.length 17 (aX g.2.2.2.2.1)))/\tI (wW ((x.1:Int)-1))=tI (g.1:Int)/\Heap.set h2 x.2.2.2.2.2 (IObj.tip (x.2.2.2.2.1.length*17+17))=((g.2.2).2).1/\(g.1+g.2.2.2.2.1.length<=10/\fQ f dp.toNat r g.2.1 w g.2.2.1 g.2.2.2.2.1/\GN h id g.2.1 g.2.2.1 g.2.2.2.1/\Heap.get g.2.2.2.1 g.2.2.2.2.2=IObj.tip (g.2.2.2.2.1.length*17)/\Heap.next h<=g.2.2.2.2.2/\g.2.2.2.2.2<g.2.2.2.1.next)/\g.1<x.1)) (Q (.vslice none 0 (((((x.2.2).2).2).1).length) 17 (aX x.2.2.2.2.1)) x.2.2.2.1)) (Q (.vslice none 0 x.2.2.2.2.1.length 17 (aX (((((x.2).2).2).2).1))) x.2.2.2.1)):=by kernel_rfl
abbrev c7B(dp:Int)(g:Nat):=0<=wW (dp+1)/\wW (dp+1)<=3/\(2:Int)*((3:Int)-wW (dp+1))+1< (g:Int)
def d6G:=[iI 0,IV.str [],IV.str [],iI 0,iI 0,iI 0,IV.str [],iI 0,IV.nilslice,iI 0,iI 0,IV.str [],iI 0,IV.nilslice,IV.nilslice,IV.nilslice,IV.nilslice]
abbrev nT(f:Int):=f=0\/f=1
abbrev b6E(d:Nat):=(0:Int)<=2/\(2:Int)<=4/\2< (d:Int)
abbrev b6F(d:Nat):=(0:Int)<=1/\(1:Int)<=4/\3< (d:Int)
def jR(x:Int×Int×Heap):=x.2.2
def d6H(f:Int)(x:Int×Int×Heap):=decide (0<=Int.tmod x.1 (↑((bN f).length):Int)) &&decide (Int.tmod x.1 (↑((bN f).length):Int)< (↑((bN f).length):Int))
def d6I(f:Int):=TV.v (.vslice none 0 ((bN f).length) 1 (List.map IV.str (bN f)))
def vI(dp f n w:Int)(h h2:Heap)(id r:Nat)(i:Int):Prop:= ∃(g:Int×Int×Heap),some (TV.v (.ptr id 0))=some (TV.v (.ptr id 0))/\tI f=tI f/\tI dp=tI dp/\some (TV.l 6 0)=some (TV.l 6 0)/\some (d6I f)=some (d6I f)/\tI (wW (Int.tdiv n 16)% (1000:Int))=tI g.1/\tI (i)=tI g.2.1/\some d6G=some d6G/\h2=g.2.2/\((0
 <=g.1/\g.1<1000)/\(0<=g.2.1/\g.2.1<16)/\(2<dp->g.2.1<8\/12<=g.2.1)/\(10<=w->g.2.1<10)/\GN h id (r-1) w g.2.2)/\True
def c7C(id r:Nat)(f dp w n:Int)(h h2:Heap):=aM (decide (n% (16:Int)>=10)) (vI dp f n w h h2 id r 0) (vI dp f n w h h2 id r (n% (16:Int)))
def d6J(i:Int)(g:List IV):=IObj.cells (List.take 1 g++ [iI (wW (i+1))]++List.drop 2 g)
def d6K(x:Int×Int×Heap):=decide (0<=Int.tmod x.1 2) &&decide (Int.tmod x.1 2<2)
def c7D(dp:Int):=(wW (dp+1)).toNat
abbrev d6L:=(0:Int)<=3/\(3:Int)<=10
def c7E(x:Int×Int×Heap):=(2:Int)-Int.tmod x.1 2
theorem g5Z(V:Nat)(id:Nat)(f dp:Int)(r:Nat)(w:Int)(h:Heap)(Q:KT):dF (aV (bB 152 (c1P V) (bB 80 (a4K V) b6D))) env 152 (fun k=>match Nat.beq k 27 with|true=>3|false=>0) bT (tK 8 (g1P id f dp r w h)) [.ptr id 0,.int .i64 f,.int .i64 dp] h Q=(
 ∃(K:Nat),∃(T:Int),RN h id K T/\∀(n:Int)(h2:Heap),bR n->(K=0->n=0)->RN h2 id (K-1) T->HF id h h2->(nT f)/\((0:Int)<1000/\(1000:Int)<4611686018427387904)/\((0:Int)<16/\(16:Int)< (4611686018427387904:Int))/\aM (decide (dp>2)) (aM (decide (n% (16:Int)>=8)) (aM (decide (n% (16:Int)<12)) (vI dp f n w h h2 id r 0) (aF h2 id fun r0=>aK .i64 r0 1 fun n1=>aM (decide (n1>=10)) (c7C id r f dp w n h h2) (vI dp f n w h h2 id r (n% (16:Int))))) (aF h2 id fun i=>aK .i64 i 1 fun n3=>aM (decide (n3>=10)) (c7C id r f dp w n h h2) (vI dp f n w h h2 id r (n% (16:Int))))) (aF h2 id fun r4=>aK .i64 r4 1 fun n5=>aM (decide (n5>=10)) (c7C id r f dp w n h h2) (vI dp f n w h h2 id r (n% (16:Int))))/\∀(x:Int×Int×Heap)(b:FF),(0<=x.1/\x.1<1000)/\(0<=x.2.1/\x.2.1<16)/\((2:Int)<dp->x.2.1<8\/12<=x.2.1)/\(10<=w->x.2.1<10)/\GN h id (r-1) w (jR x)->aM (decide (x.2.1<6)) (aC (!(↑((bN f).length):Int)==0) (aC (d6H f x) (bZ (List.map IV.str (bN f)) ((Int.tmod x.1 (↑((bN f).length):Int)).toNat*1) fun(s6:List UInt8)=> ∃(d r:Nat),∃(w:Int),RN (jR x) id r w/\(nT f)/\((0:Int)<=0/\(0:Int)<=4/\4< (d:Int))/\∀(k n:Int)(nm:List UInt8)(op:Int)(ks:List E)(i:Nat)(h2:Heap),gY f 4 r i (E.mk k n nm op ks)->GN (jR x) id i w h2->Q (.agg [.int .i64 1,IV.str s6,IV.str [],iI 0,iI 0,iI 0,IV.str [],iI 0,IV.vslice none 0 0 5 [],iI k,iI n,IV.str nm,iI op,IV.vslice none 0 ks.length 5 (aW ks),IV.vslice none 0 0 5 [],IV.vslice none 0 0 17 [],IV.vslice none 0 0 17 []]) h2))) (aM (decide (x.2.1<8)) (aC (d6K x) (bZ [IV.str [97],IV.str [98]] ((Int.tmod x.1 2).toNat*1) fun(s7:List UInt8)=> ∃(d r:Nat),∃(w:Int),RN (jR x) id r w/\(nT f)/\(b6E d)/\∀(k n:Int)(nm:List UInt8)(op:Int)(ks:List E)(i:Nat)(h2:Heap),gY f 2 r i (E.mk k n nm op ks)->GN (jR x) id i w h2-> ∃(d r:Nat),∃(w:Int),RN h2 id r w/\(nT f)/\(b6F d)/\∀(y u:Int)(m:List UInt8)(p:Int)(j:List E)(i:Nat)(g:Heap),gY f 3 r i (E.mk y u m p j)->GN h2 id i w g->Q (.agg [.int .i64 2,IV.str s7,IV.str [],iI 0,iI k,iI n,IV.str nm,iI op,IV.vslice none 0 ks.length 5 (aW ks),iI y,iI u,IV.str m,iI p,IV.vslice none 0 j.length 5 (aW j),IV.vslice none 0 0 5 [],IV.vslice none 0 0 17 [],IV.vslice none 0 0 17 []]) g)) (aM (decide (x.2.1<10)) (∃(d r:Nat),∃(w:Int),RN (jR x) id r w/\(nT f)/\(b6F d)/\∀(k n:Int)(nm:List UInt8)(op:Int)(ks:List E)(i:Nat)(h2:Heap),gY f 3 r i (E.mk k n nm op ks)->GN (jR x) id i w h2-> ∃(r:Nat),∃(w:Int),(RN h2 id r w/\0<=w/\w<=10)/\(nT f)/\(c7B dp V)/\d6L/\∀(l:List M10.S)(i:Nat)(z:Int)(g:Heap),fQ f (c7D dp) r i w z l->GN h2 id i z g-> ∃(r:Nat),∃(w:Int),(RN g id r w/\0<=w/\w<=10)/\(nT f)/\(c7B dp V)/\((0:Int)<=2/\(2:Int)<=10)/\∀(G:List M10.S)(i:Nat)(z:Int)(h2:Heap),fQ f (c7D dp) r i w z G->GN g id i z h2->Q (.agg [.int .i64 3,IV.str [],IV.str [],iI 0,iI 0,iI 0,IV.str [],iI 0,IV.vslice none 0 0 5 [],iI k,iI n,IV.str nm,iI op,IV.vslice none 0 ks.length 5 (aW ks),IV.vslice none 0 0 5 [],IV.vslice none 0 l.length 17 (aX l),IV.vslice none 0 G.length 17 (aX G)]) h2) (aM (decide (x.2.1<12)) (aF (jR x) id fun r8=>aK .i64 r8 1 fun Z=>aF (jR x) id fun D=>aC (Nat.ble 2 D.length) (∃(d r:Nat),∃(w:Int),RN ((jR x).set id (d6J Z D)) id r w/\(nT f)/\(b6F d)/\∀(k n:Int)(nm:List UInt8)(op:Int)(ks:List E)(i:Nat)(h2:Heap),gY f 3 r i (E.mk k n nm op ks)->GN ((jR x).set id (d6J Z D)) id i w h2-> ∃(r:Nat),∃(w:Int),(RN h2 id r w/\0<=w/\w<=10)/\(nT f)/\(c7B dp V)/\d6L/\∀(l:List M10.S)(i:Nat)(z:Int)(g:Heap),fQ f (c7D dp) r i w z l->GN h2 id i z g->Q (.agg [.int .i64 4,IV.str [],IV.str [],iI 0,iI 0,iI 0,IV.str [],iI 0,IV.vslice none 0 0 5 [],iI k,iI n,IV.str nm,iI op,IV.vslice none 0 ks.length 5 (aW ks),IV.vslice none 0 0 5 [],IV.vslice none 0 l.length 17 (aX l),IV.vslice none 0 0 17 []]) g)) (aM (decide (x.2.1<14)) (∃(d r:Nat),∃(w:Int),RN (jR x) id r w/\(nT f)/\(b6F d)/\∀(k n:Int)(nm:List UInt8)(op:Int)(ks:List E)(i:Nat)(h2:Heap),gY f 3 r i (E.mk k n nm op ks)->GN (jR x) id i w h2->Q (.agg [.int .i64 5,IV.str [],IV.str [],iI 0,iI 0,iI 0,IV.str [],iI 0,IV.vslice none 0 0 5 [],iI k,iI n,IV.str nm,iI op,IV.vslice none 0 ks.length 5 (aW ks),IV.vslice none 0 0 5 [],IV.vslice none 0 0 17 [],IV.vslice none 0 0 17 []]) h2) (aM (decide (x.2.1<15)) (aC (!(↑((bN f).length):Int)==0) (aC (d6H f x) (bZ (List.map IV.str (bN f)) ((Int.tmod x.1 (↑((bN f).length):Int)).toNat*1) fun(O:List UInt8)=>aC (d6K x) (bZ [IV.str [102],IV.str [103]] ((Int.tmod x.1 2).toNat*1) fun(L:List UInt8)=>aM (decide (0<wW (c7E x))) (∃(d r:Nat),∃(w:Int),RN (jR x) id r w/\(nT f)/\(b6E d)/\∀(k n:Int)(nm:List UInt8)(op:Int)(ks:List E)(i:Nat)(h2:Heap),gY f 2 r i (E.mk k n nm op ks)->GN (jR x) id i w h2->aM (decide (1<wW (c7E x))) (∃(d r:Nat),∃(w:Int),RN (h2.push (IObj.tip 5)) id r w/\(nT f)/\(b6E d)/\∀(y u:Int)(m:List UInt8)(p:Int)(j:List E)(i:Nat)(g:Heap),gY f 2 r i (E.mk y u m p j)->GN (h2.push (IObj.tip 5)) id i w g->dG g (h2.next) fun(Y:Nat)=>aC (Nat.beq Y 5 &&true) (aM (decide (2<wW (c7E x))) (∃(d r:Nat),∃(w:Int),RN (g.set (h2.next) (IObj.tip 10)) id r w/\(nT f)/\(b6E d)/\∀(k n:Int)(nm:List UInt8)(op:Int)(ks:List E)(i:Nat)(A:Heap),gY f 2 r i (E.mk k n nm op ks)->GN (g.set (h2.next) (IObj.tip 10)) id i w A->dG A (h2.next) fun(X:Nat)=>aC (Nat.beq X 10 &&true) False) (Q (.agg [.int .i64 6,IV.str O,IV.str L,iI 0,iI 0,iI 0,IV.str [],iI 0,IV.vslice none 0 0 5 [],iI 0,iI 0,IV.str [],iI 0,IV.vslice none 0 0 5 [],IV.vslice none 0 2 5 [iI k,iI n,IV.str nm,iI op,IV.vslice none 0 ks.length 5 (aW ks),iI y,iI u,IV.str m,iI p,IV.vslice none 0 j.length 5 (aW j)],IV.vslice none 0 0 17 [],IV.vslice none 0 0 17 []]) (g.set (h2.next) (IObj.tip 10))))) (Q (.agg [.int .i64 6,IV.str O,IV.str L,iI 0,iI 0,iI 0,IV.str [],iI 0,IV.vslice none 0 0 5 [],iI 0,iI 0,IV.str [],iI 0,IV.vslice none 0 0 5 [],IV.vslice none 0 1 5 [iI k,iI n,IV.str nm,iI op,IV.vslice none 0 ks.length 5 (aW ks)],IV.vslice none 0 0 17 [],IV.vslice none 0 0 17 []]) (h2.push (IObj.tip 5)))) (Q (.agg [.int .i64 6,IV.str O,IV.str L,iI 0,iI 0,iI 0,IV.str [],iI 0,IV.vslice none 0 0 5 [],iI 0,iI 0,IV.str [],iI 0,IV.vslice none 0 0 5 [],IV.vslice none 0 0 5 [],IV.vslice none 0 0 17 [],IV.vslice none 0 0 17 []]) (jR x)))))) (Q (.agg [.int .i64 7,IV.str [],IV.str [],iI x.1,iI 0,iI 0,IV.str [],iI 0,IV.vslice none 0 0 5 [],iI 0,iI 0,IV.str [],iI 0,IV.vslice none 0 0 5 [],IV.vslice none 0 0 5 [],IV.vslice none 0 0 17 [],IV.vslice none 0 0 17 []]) (jR x)))))))):=by kernel_rfl
theorem gSt: ∀d,(∀xs h Q,a4K d xs h Q->aU env 80 xs h Q)/\(∀xs h Q,c1P d xs h Q->aU env 152 xs h Q):=by
 intro d
 induction d with
 |zero=>
  refine⟨?_,?_⟩
  ·intro xs h Q p;unfold a4K at p;split at p
   ·rename_i id f dp mo;obtain⟨r,w,hr,L,hd,hm,p⟩:=p;have h1:=hd.2.1;have h2:=hd.2.2;omega
   ·exact p.elim
  ·intro xs h Q p;unfold c1P at p;split at p
   ·rename_i id f dp;obtain⟨r,w,hr,L,hd,p⟩:=p;have h1:=hd.2.1;have h2:=hd.2.2;omega
   ·exact p.elim
 |succ dd ih=>
  have hT:aT env (bB 152 (c1P dd) (bB 80 (a4K dd) b6D)):=aI (ih.2) (aI (ih.1) (d6E));refine⟨?_,?_⟩
  ·intro xs h Q p;unfold a4K at p;split at p
   ·rename_i id f dp mo;obtain⟨r,w,hr,L,hd,hm,p⟩:=p;refine aS hT (g1Q dd id f dp mo r w h Q) ?_;delta d6F zP zQ zR d1U f3S f3T tI wW iI;obtain⟨hr,d0,a5⟩:=hr;obtain⟨d1,d3,d2⟩:=hd;have d7:IntKind.i64.wrap (mo+1)=mo+1:=h0X _ (by omega);rw [d7];refine⟨r,w,hr,fun n h2 hn hz g1 g2=>⟨by omega,.inl ⟨((n% (mo+1)).toNat,r-1,w,h2),rfl,rfl,rfl,rfl,?_,rfl,⟨?_,fQ.mono (fQ.nil a5) (Nat.sub_le _ _),g1,g2⟩,trivial⟩,?_,?_⟩⟩
    ·dsimp only;rw [h3Q (h3K _ (by omega))]
    ·have h1:=h3K n (show mo+1≠0 by omega);have h2:=h3J n (show 0<mo+1 by omega);dsimp only;omega
    ·rintro⟨k,r1,w1,g⟩ _ ⟨a0,hp,u⟩;dsimp only at a0 hp u⊢;have T:=u;have b2:=hp.2.2.2.1;refine dW (fun c1=>?_) (fun _=>p [] r1 w1 g hp u);obtain⟨⟨a1,io,e,l,hb,a2,y⟩,a9⟩:=u;refine aB y (dY rfl (dW (fun c2=>⟨r1,w1,⟨T.1,by omega,by omega,by omega⟩,L,by omega,fun k2 nm to n2 ak an b6 a7 b9 vk vn b1 a6 b8 a4 th el D w2 h3 p3 G=> .inr ⟨(k-1,D,w2,h3.push (.tip 17),[.mk k2 nm to n2 (.mk ak an b6 a7 b9) (.mk vk vn b1 a6 b8) a4 th el],h3.next),rfl,rfl,rfl,rfl,?_,rfl,⟨?_,hp.snoc p3,(T.trans G).push,aR,?_,h1G _⟩,?_⟩⟩) (fun _=>p [] r1 w1 g hp T)))
     ·dsimp only;rw [h0X _ (by omega),show((k:Int)-1)=((k-1:Nat):Int) by omega]
     ·dsimp only [List.length_cons,List.length_nil];omega
     ·have:=T.2.1;have:=G.2.1;dsimp only;omega
     ·dsimp only;omega
    ·rintro⟨k,r1,w1,g,l0,i0⟩ _ ⟨a0,hp,u,ht,c0,b4⟩;dsimp only at a0 hp u ht c0 b4⊢;have T:=u;have b2:=hp.2.2.2.1;have e2:=hr.1;refine dW (fun c1=>?_) (fun _=>p l0 r1 w1 g hp u);obtain⟨⟨a1,io,e,l,hb,a2,y⟩,a9⟩:=u;refine aB y (dY rfl (dW (fun c2=>⟨r1,w1,⟨T.1,by omega,by omega,by omega⟩,L,by omega,fun k2 nm to n2 ak an b6 a7 b9 vk vn b1 a6 b8 a4 th el D w2 h3 p3 G=>?_⟩) (fun _=>p l0 r1 w1 g hp T)));have a3:i0≠id:=by omega
     have d4:h3.get i0= .tip (l0.length*17):=by rw [G.2.2 _ b4 a3];exact ht
     have d5:i0<h3.next:=h1C b4 G.2.1;refine bE d4 (aA (by simp only [h0Y,bY,h1S,true_and];omega) (.inr ⟨(k-1,D,w2,h3.set i0 (.tip (l0.length*17+17)),l0++ [.mk k2 nm to n2 (.mk ak an b6 a7 b9) (.mk vk vn b1 a6 b8) a4 th el],i0),rfl,rfl,rfl,?_,?_,rfl,⟨?_,hp.snoc p3,(T.trans G).set c0 a3,?_,c0,d5⟩,?_⟩))
     ·dsimp only;rw [a3Q,h1E,h3B];rfl
     ·dsimp only;rw [h0X _ (by omega),show((k:Int)-1)=((k-1:Nat):Int) by omega]
     ·dsimp only;rw [h1E];show k-1+(l0.length+1)<=10;omega
     ·dsimp only;rw [aH,h1E,h3B];rfl
     ·dsimp only;omega
   ·exact p.elim
  ·intro xs h Q p;unfold c1P at p;split at p
   ·rename_i id f dp;obtain⟨r,w,hr,L,hd,p⟩:=p;refine aS hT (g5Z dd id f dp r w h Q) ?_;delta vI c7B d6G nT b6E b6F jR d6H c7C d6J d6K c7D d6I d6L c7E tI wW iI;obtain⟨hr,e4,d0,a5⟩:=hr;obtain⟨d1,d3,d2⟩:=hd;refine⟨r,w,hr,fun n h2 hn hz g1 g2=>⟨L,⟨by decide,by decide⟩,⟨by decide,by decide⟩,?_⟩⟩;have u:GN h id (r-1) w h2:=⟨g1,g2⟩;have K:=h3K (IntKind.i64.wrap (Int.tdiv n 16)) (show(1000:Int)≠0 by decide);have V:=h3J (IntKind.i64.wrap (Int.tdiv n 16)) (show(0:Int)<1000 by decide);have c7:=h3K n (show(16:Int)≠0 by decide);have a8:=h3J n (show(0:Int)<16 by decide);generalize IntKind.i64.wrap (Int.tdiv n 16)%1000=m at K V⊢;generalize n%16=k0 at c7 a8⊢;obtain⟨a1,io,e,l,hb,a2,y⟩:=g1;have e3:0< (bN f).length:=by rcases L with rfl|rfl<;>decide
    refine⟨?_,?_⟩
    ·refine dW (fun c1=>dW (fun c2=>dW (fun c3=>⟨(m,0,h2),rfl,rfl,rfl,rfl,rfl,rfl,rfl,rfl,rfl,⟨⟨K,V⟩,⟨by dsimp only;omega,by dsimp only;omega⟩,fun _=>by dsimp only;omega,fun _=>by dsimp only;omega,u⟩,trivial⟩) (fun c3=>?_)) (fun c2=>?_)) (fun c1=>?_)
     all_goals
      have hp:2<dp->k0<8\/12<=k0:=by omega
      exact aB y (bV rfl (dW (fun c4=>dW (fun _=>⟨(m,0,h2),rfl,rfl,rfl,rfl,rfl,rfl,rfl,rfl,rfl,⟨⟨K,V⟩,⟨by dsimp only;omega,by dsimp only;omega⟩,fun _=>by dsimp only;omega,fun _=>by dsimp only;omega,u⟩,trivial⟩) (fun c5=>⟨(m,k0,h2),rfl,rfl,rfl,rfl,rfl,rfl,rfl,rfl,rfl,⟨⟨K,V⟩,⟨by dsimp only;omega,by dsimp only;omega⟩,fun _=>by dsimp only;omega,fun _=>by dsimp only;omega,u⟩,trivial⟩)) (fun c4=>⟨(m,k0,h2),rfl,rfl,rfl,rfl,rfl,rfl,rfl,rfl,rfl,⟨⟨K,V⟩,⟨by dsimp only;omega,by dsimp only;omega⟩,fun _=>by dsimp only;omega,fun _=>by dsimp only;omega,u⟩,trivial⟩)))
    rintro⟨m,k,g⟩ _ ⟨⟨K,V⟩,⟨c7,a8⟩,d9,d8,u⟩;clear y a2 hb a1 hz hn;dsimp only at K V c7 a8 d9 d8 u⊢;have X:dp.toNat<=4:=by omega
    have t1:0<=Int.tmod m ((bN f).length:Int)/\Int.tmod m ((bN f).length:Int)< (bN f).length:=by
     rw [h3N K];exact⟨h3K _ (by omega),h3J _ (by omega)⟩
    have t2:Int.tmod m 2=0\/Int.tmod m 2=1:=by
     rw [h3N K];omega
    generalize Int.tmod m 2=m2 at t2⊢;generalize Int.tmod m ((bN f).length:Int)=ml at t1⊢;have nz:(!(((bN f).length:Int)==0))=true:=by simp only [h2K,beq_eq_false_iff_ne];omega
    have i: ∀q,fQ f (dp.toNat+1) q q w w []:=fun q=>fQ.nil a5
    have z1:(E.mk 0 0 [] 0 []).dp=0:=g0Y;have z2:(E.mk 0 0 [] 0 []).cost=0:=e5T;have Y: ∀x∈ ([]:List E),x.dp<=5:=fun x hx=>by cases hx
    refine dW (fun c1=>aA nz (aP t1 (a3R (by omega) fun s hs=>?_))) (fun c1=>dW (fun c2=>aP (by omega) (a3R (l:=oW) (show m2.toNat*1<2 by omega) fun s hs=>?_)) (fun c2=>dW (fun c3=>?_) (fun c3=>dW (fun c4=>?_) (fun c4=>dW (fun c5=>?_) (fun c5=>dW (fun c6=>?_) (fun c6=>?_))))))
    ·refine⟨5,r-1,w,u.1,L,by omega,fun k1 Z nm1 z A D h3 j G=>p 1 s [] 0 0 0 [] 0 [] k1 Z nm1 z A [] [] [] D w h3 (xG.node (r0:=r-1) (.inl ⟨rfl,hs,rfl,rfl,rfl,j.1,rfl,rfl,rfl⟩) X ⟨by omega,by have:=j.2.1;omega,Y⟩ ⟨by omega,j.2.2.1⟩ ?_ (i D) (i D) (by simp)) (u.trans G)⟩;have:=j.2.2.2;simp only [Es.cost];omega
    ·refine⟨5,r-1,w,u.1,L,by omega,fun k1 Z nm1 z A D h3 j G=>⟨5,D,w,G.1,L,by omega,fun k2 n2 b0 b5 b7 r3 h4 O g4=>p 2 s [] 0 k1 Z nm1 z A k2 n2 b0 b5 b7 [] [] [] r3 w h4 (xG.node (r0:=r-1) (r1:=r3) (.inr (.inl ⟨rfl,hs,rfl,rfl,j.1,O.1,rfl,rfl,rfl⟩)) X ⟨by have:=j.2.1;omega,by have:=O.2.1;omega,Y⟩ ⟨by omega,h2F O.2.2.1 j.2.2.1⟩ ?_ (i r3) (i r3) (by simp)) ((u.trans G).trans g4)⟩⟩;have:=j.2.2.2;have:=O.2.2.2;have:=j.2.2.1;have:=O.2.2.1;simp only [Es.cost];omega
    ·have d6:dp<=2:=by omega
     have b3:IntKind.i64.wrap (dp+1)=dp+1:=h0X _ (by omega);have c8:(dp+1).toNat=dp.toNat+1:=by omega
     rw [b3,c8];refine⟨5,r-1,w,u.1,L,by omega,fun k1 Z nm1 z A D h3 j G=>⟨D,w,⟨G.1,d0,a5⟩,L,by omega,by omega,fun l r3 w3 h4 O g4=>⟨r3,w3,⟨g4.1,by have:=O.2.2.2.1.1;omega,O.2.2.2.1.2⟩,L,by omega,by omega,fun l2 r4 w4 h5 p3 g5=>p 3 [] [] 0 0 0 [] 0 [] k1 Z nm1 z A [] l l2 r4 w4 h5 (xG.node (r0:=r-1) (r1:=D) (.inr (.inr (.inl ⟨rfl,rfl,rfl,rfl,rfl,j.1,rfl⟩))) X ⟨by omega,by have:=j.2.1;omega,Y⟩ ⟨by omega,j.2.2.1⟩ ?_ O p3 (by simp)) (((u.trans G).trans g4).trans g5)⟩⟩⟩;have:=j.2.2.2;simp only [Es.cost];omega
    ·have d6:dp<=2:=by omega
     have b3:IntKind.i64.wrap (dp+1)=dp+1:=h0X _ (by omega);have c8:(dp+1).toNat=dp.toNat+1:=by omega
     have b2:w+1<=10:=by omega
     rw [b3,c8];obtain⟨⟨a1,io,e,l,hb,a2,y⟩,a9⟩:=u;refine aB y (bV rfl (aB y (aA rfl ?_)));have gw:GN h id (r-1) (w+1) (g.set id (IObj.cells (List.take 1 [.vslice io e l.length 1 (l.map (IV.int .i64)),.int .i64 w]++ [.int .i64 (IntKind.i64.wrap (w+1))]++List.drop 2 [.vslice io e l.length 1 (l.map (IV.int .i64)),.int .i64 w]))):=⟨RN.wl a1 hb a2 (h0X _ (by omega)),a9.trans HF.set⟩;generalize Heap.set g id (IObj.cells (List.take 1 [.vslice io e l.length 1 (l.map (IV.int .i64)),.int .i64 w]++ [.int .i64 (IntKind.i64.wrap (w+1))]++List.drop 2 [.vslice io e l.length 1 (l.map (IV.int .i64)),.int .i64 w]))=g2 at gw⊢;refine⟨5,r-1,w+1,gw.1,L,by omega,fun k1 Z nm1 z A D h3 j G=>⟨D,w+1,⟨G.1,by omega,b2⟩,L,by omega,by omega,fun l r3 w3 h4 O g4=>p 4 [] [] 0 0 0 [] 0 [] k1 Z nm1 z A [] l [] r3 w3 h4 (xG.node (r0:=r-1) (r1:=D) (wa:=w+1) (.inr (.inr (.inr (.inl ⟨rfl,rfl,rfl,rfl,rfl,j.1,rfl,rfl⟩)))) X ⟨by omega,by have:=j.2.1;omega,Y⟩ ⟨by omega,j.2.2.1⟩ ?_ O (fQ.nil O.2.2.2.1.2) (by simp)) ((gw.trans G).trans g4)⟩⟩;have:=j.2.2.2;simp only [Es.cost];omega
    ·refine⟨5,r-1,w,u.1,L,by omega,fun k1 Z nm1 z A D h3 j G=>p 5 [] [] 0 0 0 [] 0 [] k1 Z nm1 z A [] [] [] D w h3 (xG.node (r0:=r-1) (r1:=D) (.inr (.inr (.inr (.inr (.inl ⟨rfl,rfl,rfl,rfl,rfl,j.1,rfl,rfl,rfl⟩))))) X ⟨by omega,by have:=j.2.1;omega,Y⟩ ⟨by omega,j.2.2.1⟩ ?_ (i D) (i D) (by simp)) (u.trans G)⟩;have:=j.2.2.2;simp only [Es.cost];omega
    ·refine aA nz (aP t1 (a3R (by omega) fun s hs=>aP (by omega) ?_));rcases t2 with rfl|rfl
     ·refine hZ rfl (brT (by decide) ⟨5,r-1,w,u.1,L,by omega,fun k1 Z nm1 z A D h3 j G=>brT (by decide) ⟨5,D,w,G.1.push,L,by omega,fun k2 n2 b0 b5 b7 r3 h4 O g4=>?_⟩⟩);have e5:=u.1.1;have e1:id<h3.next:=G.1.1;have a3:h3.next≠id:=by omega
      have c9:h4.get h3.next= .tip 5:=by
       rw [g4.2.2 _ (h1G _) a3];exact aR
      refine bE c9 (aA rfl (nG (by decide) ?_));refine p 6 s [102] 0 0 0 [] 0 [] 0 0 [] 0 [] [.mk k1 Z nm1 z A,.mk k2 n2 b0 b5 b7] [] [] r3 w _ (xG.node (r0:=r-1) (r1:=r3) (.inr (.inr (.inr (.inr (.inr (.inl ⟨rfl,hs,.inl ⟨rfl,rfl⟩,rfl,rfl,rfl,⟨j.1,O.1,trivial⟩,rfl,rfl⟩)))))) X ⟨by omega,by omega,fun x hx=>?_⟩ ⟨by omega,h2F O.2.2.1 j.2.2.1⟩ ?_ (i r3) (i r3) (by simp)) (((u.trans G).push.trans g4).set ?_ a3)
      ·rcases h2O.1 hx with rfl|hx
       ·have:=j.2.1;omega
       ·rw [h2J.1 hx];have:=O.2.1;omega
      ·have:=j.2.2.2;have:=O.2.2.2;have:=j.2.2.1;have:=O.2.2.1;simp only [Es.cost];omega
      ·have:=u.2.1;have:=G.2.1;omega
     ·refine hZ rfl (brT (by decide) ⟨5,r-1,w,u.1,L,by omega,fun k1 Z nm1 z A D h3 j G=>nG (by decide) ?_⟩);refine p 6 s [103] 0 0 0 [] 0 [] 0 0 [] 0 [] [.mk k1 Z nm1 z A] [] [] D w _ (xG.node (r0:=r-1) (r1:=D) (.inr (.inr (.inr (.inr (.inr (.inl ⟨rfl,hs,.inr ⟨rfl,rfl⟩,rfl,rfl,rfl,⟨j.1,trivial⟩,rfl,rfl⟩)))))) X ⟨by omega,by omega,fun x hx=>?_⟩ ⟨by omega,j.2.2.1⟩ ?_ (i D) (i D) (by simp)) (u.trans G).push
      ·rw [h2J.1 hx];have:=j.2.1;omega
      ·have:=j.2.2.2;simp only [Es.cost];omega
    ·exact p 7 [] [] m 0 0 [] 0 [] 0 0 [] 0 [] [] [] [] (r-1) w g (xG.node (r0:=r-1) (r1:=r-1) (.inr (.inr (.inr (.inr (.inr (.inr ⟨rfl,rfl,rfl,⟨K,V⟩,rfl,rfl,rfl,rfl,rfl⟩)))))) X ⟨by omega,by omega,Y⟩ ⟨by omega,h1D _⟩ (by simp only [Es.cost];omega) (i _) (i _) (by simp)) u
   ·exact p.elim
def e9H:=bB 80 (fun xs h K=> ∃d,a4K d xs h K) b6D
theorem f3U:aT env e9H:=aI (fun xs h Q g=>g.elim fun d g=>(gSt d).1 xs h Q g) (d6E)
def f3V:=bB 152 (fun xs h K=> ∃d,c1P d xs h K) e9H
theorem e9I:aT env f3V:=aI (fun xs h Q g=>g.elim fun d g=>(gSt d).2 xs h Q g) (f3U)
def f3W(xs:List IV)(h:Heap)(K:KT):Prop:=match xs with
 | [.vslice none e0 n0 1 c0]=> ∃l:List Int,(n0=l.length/\c0=l.map (IV.int .i64))/\(∀x∈l,bR x)/\∀(g r:Int)(i:List S)(p:E)(j:List S)(m:E),PP g r i p j m->K (.agg [.vslice none 0 2 2 (c1A g r),.vslice none 0 2 9 (fnC i p j m)]) h
 |_=>False
def d6M(h2:Heap):=h2.push (IObj.cells [IV.str [102],IV.vslice none 1 2 1 [IV.str [120],IV.str [121]],IV.vslice none 1 2 1 [IV.str [105],IV.str [106]],IV.nilslice,iI 0,iI 0,IV.str [],iI 0,IV.nilslice,IV.str [103],IV.vslice none 1 1 1 [IV.str [110]],IV.vslice none 1 1 1 [IV.str [105]],IV.nilslice,iI
 0,iI 0,IV.str [],iI 0,IV.nilslice])
def f3X(n:Int):=[IV.str [97],iI (wW ((1:Int)+n% (4:Int))),IV.str [98],iI (wW ((1:Int)+wW (Int.tdiv n 4)% (4:Int)))]
def d6N(k g op:Int)(nm:List UInt8)(ks:List E):=[iI k,iI g,IV.str nm,iI op,IV.vslice none 0 ks.length 5 (aW ks)]
def zS:=(0:Nat)+1
abbrev d6O(d:Nat):=(0:Int)<=1/\(1:Int)<=4/\3< (d:Int)
abbrev d6P:=(0:Int)<4/\(4:Int)<4611686018427387904
def f3Y:=Heap.mk (PT.node PT.nil (some (IObj.cells [IV.vslice none 1 0 1 [],iI 0])) PT.nil) zS
abbrev d6Q:=(0:Int)=0\/ (0:Int)=1
abbrev d6R:=(1:Int)=0\/ (1:Int)=1
def f3Z(n:Int)(g:List IV):=[IV.vslice none 0 2 2 (f3X n),IV.vslice none 0 2 9 (List.take 18 g)]
def f4A(n:Int)(g:List IV):=[IV.vslice none 0 2 2 (f3X n),IV.vslice none 0 2 9 (List.take 18 g)]
def lJ(h2:Heap):=h2.next
abbrev f4B(d:Nat):=(0:Int)<=0/\(0:Int)<=3/\7< (d:Int)
abbrev f4C(d:Nat):=(0:Int)<=1/\(1:Int)<=3/\5< (d:Int)
abbrev f4D:=(0:Int)<=5/\(5:Int)<=10
abbrev f4E:=(0:Int)<=3/\(3:Int)<=10
def f4F(k op g:Int)(nm:List UInt8)(ks:List E):=[iI k,iI g,IV.str nm,iI op,IV.vslice none 0 ks.length 5 (aW ks)]
theorem g6A(l:List Int)(e0:Nat)(h:Heap)(Q:KT):dF (aV f3V) env 34 dV bT bT [.vslice none e0 (l).length 1 ((l).map (IV.int .i64))] h Q=(
 aC (aN [IV.vslice none 0 l.length 1 (List.map (IV.int .i64) l)]) (aC (true&& (decide (0<=if 60< (l.length:Int)then(60:Int)else(l.length:Int)) &&decide ((if 60< (l.length:Int)then(60:Int)else((l.length):Int))<=(l.length:Int)))) (aM (Nat.beq (Int.toNat (if 60< (l.length:Int)then(60:Int)else(l.length:Int))-0) 0) (∃(r:Nat),∃(w:Int),RN f3Y 0 r w/\∀(n:Int)(h2:Heap),bR n->(r=0->n=0)->RN h2 0 (r-1) w->HF 0 f3Y h2->d6P/\d6P/\∃(d r:Nat),∃(w:Int),(RN (d6M h2) 0 r w/\0<=w/\w<=10)/\d6Q/\(f4B d)/\f4D/\∀(l:List M10.S)(m:Nat)(z:Int)(g:Heap),fQ 0 0 r m w z l->GN (d6M h2) 0 m z g->aF g (lJ h2) fun r0=>aC (Nat.ble 4 r0.length) (∃(d r:Nat),∃(w:Int),RN (g.set (lJ h2) (IObj.cells (List.take 3 r0++ [IV.vslice none 0 l.length 17 (aX l)]++List.drop 4 r0))) 0 r w/\d6Q/\(d6O d)/\∀(k u:Int)(nm:List UInt8)(op:Int)(ks:List E)(m:Nat)(i:Heap),gY 0 3 r m (E.mk k u nm op ks)->GN (g.set (lJ h2) (IObj.cells (List.take 3 r0++ [IV.vslice none 0 l.length 17 (aX l)]++List.drop 4 r0))) 0 m w i->aF i (lJ h2) fun r1=>aC (Nat.ble 9 r1.length) (∃(d r:Nat),∃(w:Int),(RN (i.set (lJ h2) (IObj.cells (List.take 4 r1++(d6N k u op nm ks)++List.drop 9 r1))) 0 r w/\0<=w/\w<=10)/\d6R/\(f4C d)/\f4E/\∀(l:List M10.S)(m:Nat)(z:Int)(j:Heap),fQ 1 1 r m w z l->GN (i.set (lJ h2) (IObj.cells (List.take 4 r1++(d6N k u op nm ks)++List.drop 9 r1))) 0 m z j->aF j (lJ h2) fun m=>aC (Nat.ble 13 m.length) (∃(d r:Nat),∃(w:Int),RN (j.set (lJ h2) (IObj.cells (List.take 12 m++ [IV.vslice none 0 l.length 17 (aX l)]++List.drop 13 m))) 0 r w/\d6R/\(d6O d)/\∀(k y:Int)(nm:List UInt8)(op:Int)(ks:List E)(A:Nat)(p:Heap),gY 1 3 r A (E.mk k y nm op ks)->GN (j.set (lJ h2) (IObj.cells (List.take 12 m++ [IV.vslice none 0 l.length 17 (aX l)]++List.drop 13 m))) 0 A w p->aF p (lJ h2) fun V=>aC (Nat.ble 18 V.length) (aF (p.set (lJ h2) (IObj.cells (List.take 13 V++(f4F k op y nm ks)++List.drop 18 V))) (lJ h2) fun L=>aC (true&&Nat.ble 18 L.length) (aC (aN [IV.agg (f3Z n L)]) (Q (.agg (f3Z n L)) h))))))) (aC (Nat.ble (((0:Nat)+(Int.toNat (if 60< (l.length:Int)then(60:Int)else(l.length:Int))-0))*8) 140737488355328) (∃(r:Nat),∃(w:Int),RN (Heap.mk (PT.node (PT.node PT.nil (some (IObj.cells [IV.vslice (some (0:Nat)) (((0:Nat)+(Int.toNat (if 60< (l.length:Int)then(60:Int)else(l.length:Int))-0))*1) ((0:Nat)+(Int.toNat (if 60< (l.length:Int)then(60:Int)else(l.length:Int))-0)) 1 ([]++List.take ((Int.toNat (if 60< (l.length:Int)then(60:Int)else(l.length:Int))-0)*1) (List.drop 0 (List.map (IV.int .i64) l))),iI 0])) PT.nil) (some (IObj.tip (((0:Nat)+(Int.toNat (if 60< (l.length:Int)then(60:Int)else(l.length:Int))-0))*1))) PT.nil) ((0:Nat)+1+1)) zS r w/\∀(n:Int)(h2:Heap),bR n->(r=0->n=0)->RN h2 zS (r- (1:Nat)) w->HF zS (Heap.mk (PT.node (PT.node PT.nil (some (IObj.cells [IV.vslice (some (0:Nat)) (((0:Nat)+(Int.toNat (if 60< (l.length:Int)then(60:Int)else(l.length:Int))-0))*1) ((0:Nat)+(Int.toNat (if 60< (l.length:Int)then(60:Int)else(l.length:Int))-0)) 1 ([]++List.take ((Int.toNat (if 60< (l.length:Int)then(60:Int)else(l.length:Int))-0)*1) (List.drop 0 (List.map (IV.int .i64) l))),iI 0])) PT.nil) (some (IObj.tip (((0:Nat)+(Int.toNat (if 60< (l.length:Int)then(60:Int)else(l.length:Int))-0))*1))) PT.nil) ((0:Nat)+1+1)) h2->d6P/\d6P/\∃(d r:Nat),∃(w:Int),(RN (d6M h2) zS r w/\0<=w/\w<=10)/\d6Q/\(f4B d)/\f4D/\∀(l:List M10.S)(m:Nat)(z:Int)(g:Heap),fQ 0 0 r m w z l->GN (d6M h2) zS m z g->aF g (lJ h2) fun D=>aC (Nat.ble 4 D.length) (∃(d r:Nat),∃(w:Int),RN (g.set (lJ h2) (IObj.cells (List.take 3 D++ [IV.vslice none 0 l.length 17 (aX l)]++List.drop 4 D))) zS r w/\d6Q/\(d6O d)/\∀(k u:Int)(nm:List UInt8)(op:Int)(ks:List E)(m:Nat)(i:Heap),gY 0 3 r m (E.mk k u nm op ks)->GN (g.set (lJ h2) (IObj.cells (List.take 3 D++ [IV.vslice none 0 l.length 17 (aX l)]++List.drop 4 D))) zS m w i->aF i (lJ h2) fun G=>aC (Nat.ble 9 G.length) (∃(d:Nat),∃(r:Nat),∃(w:Int),(RN (i.set (lJ h2) (IObj.cells (List.take 4 G++(d6N k u op nm ks)++List.drop 9 G))) zS r w/\0<=w/\w<=10)/\d6R/\(f4C d)/\f4E/\∀(l:List M10.S)(m:Nat)(z:Int)(j:Heap),fQ 1 1 r m w z l->GN (i.set (lJ h2) (IObj.cells (List.take 4 G++(d6N k u op nm ks)++List.drop 9 G))) zS m z j->aF j (lJ h2) fun K=>aC (Nat.ble 13 K.length) (∃(d r:Nat),∃(w:Int),RN (j.set (lJ h2) (IObj.cells (List.take 12 K++ [IV.vslice none 0 l.length 17 (aX l)]++List.drop 13 K))) zS r w/\d6R/\(d6O d)/\∀(k y:Int)(nm:List UInt8)(op:Int)(ks:List E)(m:Nat)(p:Heap),gY 1 3 r m (E.mk k y nm op ks)->GN (j.set (lJ h2) (IObj.cells (List.take 12 K++ [IV.vslice none 0 l.length 17 (aX l)]++List.drop 13 K))) zS m w p->aF p (lJ h2) fun O=>aC (Nat.ble 18 O.length) (aF (p.set (lJ h2) (IObj.cells (List.take 13 O++(f4F k op y nm ks)++List.drop 18 O))) (lJ h2) fun T=>aC (true&&Nat.ble 18 T.length) (aC (aN [IV.agg (f4A n T)]) (Q (.agg (f4A n T)) h))))))))))):=by kernel_rfl
theorem g1R: ∀xs h Q,f3W xs h Q->aU env 34 xs h Q:=by
 intro xs h Q z;unfold f3W at z;split at z
 ·rename_i e0 n0 c0;obtain⟨l,⟨rfl,rfl⟩,hb,z⟩:=z;refine aS (e9I) (g6A l e0 h Q) ?_;delta d6M f3X d6N zS d6O d6P f3Y d6Q d6R f3Z f4A lJ f4B f4C f4D f4E f4F wW iI;have a0:l.length<=9223372036854775807\/True:= .inr trivial;refine aA (by simp only [aN,bL,cH,h1L]) (aA (by simp only [h2G,h0Y,decide_eq_true_eq];split<;>omega) ?_);obtain⟨K,hK,a1,a2⟩: ∃K:Nat,(Int.toNat (if(60:Int)< (l.length:Int)then 60 else(l.length:Int))-0)=K/\K<=60/\K<=l.length:=⟨_,rfl,by split<;>omega,by split<;>omega⟩
  rw [hK];refine aD (fun c=>?_) (fun c=>aA (by rw [h1S];omega) ?_)
  ·have y:RN (Heap.mk (PT.node PT.nil (some (IObj.cells [IV.vslice none 1 0 1 [],IV.int .i64 0])) PT.nil) (0+1)) 0 0 0:=⟨Nat.one_pos,none,1,[],fun x hx=>(by cases hx),rfl,rfl⟩;refine⟨0,0,y,fun n h2 hn hz g1 g2=>⟨⟨by decide,by decide⟩,⟨by decide,by decide⟩,10,0-1,0,⟨g1.push,by decide,by decide⟩,.inl rfl,⟨by decide,by decide,by decide⟩,⟨by decide,by decide⟩,fun b0 r1 r h3 A u=>?_⟩⟩;have g:h2.next≠0:=h3H g1.1;have V:=u.2.2 h2.next (h1G _) g;rw [aR]at V;have l3:h2.next<h3.next:=h1C (h1G _) u.2.1;refine aB V (aA rfl ⟨5,r1,r,u.1.set g,.inl rfl,⟨by decide,by decide,by decide⟩,fun k Y nm op ks r2 h4 p2 G=>?_⟩);have Z:=G.2.2 h2.next l3 g;rw [aH]at Z;have l4:h2.next<h4.next:=h1C l3 G.2.1;have m:0<=r/\r<=10:=by have:=A.2.2.2.1;omega
   refine aB Z (aA rfl ⟨10,r2,r,⟨G.1.set g,m⟩,.inr rfl,⟨by decide,by decide,by decide⟩,⟨by decide,by decide⟩,fun b1 r3 w3 h5 p3 D=>?_⟩);have O:=D.2.2 h2.next l4 g;rw [aH]at O;have l5:h2.next<h5.next:=h1C l4 D.2.1;refine aB O (aA rfl ⟨5,r3,w3,D.1.set g,.inr rfl,⟨by decide,by decide,by decide⟩,fun T n2 i p j r4 h6 p4 q4=>?_⟩);have L:=q4.2.2 h2.next l5 g;rw [aH]at L;refine aB L (aA rfl (aB aH (aA rfl ?_)));have m0:=h3K n (show(4:Int)≠0 by decide);have m1:=h3J n (show(0:Int)<4 by decide);have m2:=h3K (IntKind.i64.wrap (Int.tdiv n 4)) (show(4:Int)≠0 by decide);have m3:=h3J (IntKind.i64.wrap (Int.tdiv n 4)) (show(0:Int)<4 by decide);have X:PP (IntKind.i64.wrap (1+n%4)) (IntKind.i64.wrap (1+IntKind.i64.wrap (Int.tdiv n 4)%4)) b0 (.mk k Y nm op ks) b1 (.mk T n2 i p j):=by
    refine⟨⟨?_,?_,?_,?_⟩,GB.mk0 A p2 (by omega) (h3P _),GB.mk0 p3.dp0 p4 (by have:=A.2.2.2.2.2.2;have:=p2.2.2.1;omega) m.1⟩
    all_goals rw [h0X _ (by omega)];omega
   exact aA (PP.pure X) (z _ _ b0 (.mk k Y nm op ks) b1 (.mk T n2 i p j) X)
  ·have y:RN (Heap.mk (PT.node (PT.node PT.nil (some (IObj.cells [IV.vslice (some 0) ((0+K)*1) (0+K) 1 ([]++List.take (K*1) (List.drop 0 (List.map (IV.int .i64) l))),IV.int .i64 0])) PT.nil) (some (IObj.tip ((0+K)*1))) PT.nil) (0+1+1)) (0+1) K 0:=by
    refine⟨h1G _,some 0,(0+K)*1,l.take K,fun x hx=>hb x (h4X hx),by rw [h1Y];omega,?_⟩;show(IObj.cells _:IObj)=_;rw [h1Y,show min K l.length=K by omega,h6P];simp
   refine⟨K,0,y,fun n h2 hn hz g1 g2=>⟨⟨by decide,by decide⟩,⟨by decide,by decide⟩,10,K-1,0,⟨g1.push,by decide,by decide⟩,.inl rfl,⟨by decide,by decide,by decide⟩,⟨by decide,by decide⟩,fun b0 r1 r h3 A u=>?_⟩⟩;have g:h2.next≠0+1:=h3H g1.1;have V:=u.2.2 h2.next (h1G _) g;rw [aR]at V;have l3:h2.next<h3.next:=h1C (h1G _) u.2.1;refine aB V (aA rfl ⟨5,r1,r,u.1.set g,.inl rfl,⟨by decide,by decide,by decide⟩,fun k Y nm op ks r2 h4 p2 G=>?_⟩);have Z:=G.2.2 h2.next l3 g;rw [aH]at Z;have l4:h2.next<h4.next:=h1C l3 G.2.1;have m:0<=r/\r<=10:=by have:=A.2.2.2.1;omega
   refine aB Z (aA rfl ⟨10,r2,r,⟨G.1.set g,m⟩,.inr rfl,⟨by decide,by decide,by decide⟩,⟨by decide,by decide⟩,fun b1 r3 w3 h5 p3 D=>?_⟩);have O:=D.2.2 h2.next l4 g;rw [aH]at O;have l5:h2.next<h5.next:=h1C l4 D.2.1;refine aB O (aA rfl ⟨5,r3,w3,D.1.set g,.inr rfl,⟨by decide,by decide,by decide⟩,fun T n2 i p j r4 h6 p4 q4=>?_⟩);have L:=q4.2.2 h2.next l5 g;rw [aH]at L;refine aB L (aA rfl (aB aH (aA rfl ?_)));have m0:=h3K n (show(4:Int)≠0 by decide);have m1:=h3J n (show(0:Int)<4 by decide);have m2:=h3K (IntKind.i64.wrap (Int.tdiv n 4)) (show(4:Int)≠0 by decide);have m3:=h3J (IntKind.i64.wrap (Int.tdiv n 4)) (show(0:Int)<4 by decide);have X:PP (IntKind.i64.wrap (1+n%4)) (IntKind.i64.wrap (1+IntKind.i64.wrap (Int.tdiv n 4)%4)) b0 (.mk k Y nm op ks) b1 (.mk T n2 i p j):=by
    refine⟨⟨?_,?_,?_,?_⟩,GB.mk0 A p2 (by omega) (h3P _),GB.mk0 p3.dp0 p4 (by have:=A.2.2.2.2.2.2;have:=p2.2.2.1;omega) m.1⟩
    all_goals rw [h0X _ (by omega)];omega
   exact aA (PP.pure X) (z _ _ b0 (.mk k Y nm op ks) b1 (.mk T n2 i p j) X)
 ·exact z.elim
def f4G:=bB 34 f3W f3V
theorem e9J:aT env f4G:=aI g1R (e9I)
def g1S(l:List (List UInt8))(s:List UInt8):Inv':=hJ Nat (fun i=>[(0,.v (.vslice none 0 l.length 1 (l.map IV.str))),(1,.v (.str s)),(5,.v (.int .i64 (i:Int)))]) (fun _=>[]) (fun _=>Heap.empty) (fun i=>i<=l.length/\s∉l.take i) (fun i=>l.length-i)
def d6S(xs:List IV)(h:Heap)(K:KT):Prop:=match xs with
 | [.vslice none 0 m 1 c,.str s]=> ∃l:List (List UInt8),(m=l.length/\c=l.map IV.str)/\l.length<=1000/\K (.bool (decide (s∈l))) h
 |_=>False
theorem g1T(l:List Bs)(s:Bs)(h:Heap)(Q:KT):dF (aV f4G) env 201 dV (tK 3 (g1S l s)) bT [.vslice none 0 l.length 1 (l.map IV.str),.str s] h Q=(
 aC (aN [IV.vslice none 0 l.length 1 (List.map IV.str l),IV.str s]) ((∃(x:Nat),some (TV.v (.vslice none 0 l.length 1 (List.map IV.str l)))=some (TV.v (.vslice none 0 l.length 1 (List.map IV.str l)))/\some (TV.v (.str s))=some (TV.v (.str s))/\tI 0=tI (x:Int)/\Heap.mk PT.nil 0=Heap.mk PT.nil 0/\(x<=l.length/\¬s∈List.take x l)/\True)/\∀(x:Nat)(b:FF),x<=l.length/\¬s∈List.take x l->aM (decide ((x:Int)< (l.length:Int))) (aC (decide (0<=(x:Int)) &&decide ((x:Int)< (l.length:Int))) (bZ (List.map IV.str l) ((x:Int).toNat*1) fun(i:List UInt8)=>aM (i==s) (Q (.bool true) h) (∃(g:Nat),some (TV.v (.vslice none 0 l.length 1 (List.map IV.str l)))=some (TV.v (.vslice none 0 l.length 1 (List.map IV.str l)))/\some (TV.v (.str s))=some (TV.v (.str s))/\tI (wW ((x:Int)+1))=tI (g:Int)/\Heap.mk PT.nil 0=Heap.mk PT.nil 0/\(g<=l.length/\¬s∈List.take g l)/\l.length-g<l.length-x))) (Q (.bool false) h))):=by kernel_rfl
theorem g1U: ∀xs h Q,d6S xs h Q->aU env 201 xs h Q:=by
 intro xs h Q j;unfold d6S at j;split at j
 ·rename_i m c s;obtain⟨l,⟨rfl,rfl⟩,y,j⟩:=j;refine aS (e9J) (g1T l s h Q) ?_;delta tI wW;refine aA (by simp only [aN,bL,bG,bW,bP,cI,h1L]) ⟨⟨0,rfl,rfl,rfl,rfl,⟨h1N _,by simp⟩,trivial⟩,?_⟩;rintro i _ ⟨u,r⟩;refine dW (fun c=>?_) (fun c=>?_)
  ·have g:i<l.length:=by omega
   refine aP (by omega) (hZ (b:=l[i]) (by rw [h0Z,h1W,h2A,h0U g];rfl) (aD (fun p=>?_) (fun p=>⟨i+1,rfl,rfl,(by(try dsimp only);rw [h0X _ (by omega)];rfl),rfl,⟨g,?_⟩,by omega⟩)))
   ·rw [beq_iff_eq]at p;have e:s∈l:=p▸h1B g
    rwa [decide_eq_true e]at j
   ·rw [beq_eq_false_iff_ne]at p;rw [h1J g,h2S,h2J];exact fun q=>q.elim r fun q=>p q.symm
  ·rw [h1H (by omega)]at r
   rwa [decide_eq_false r]at j
 ·exact j.elim
def e9K:=bB 201 d6S f4G
theorem f4H:aT env e9K:=aI g1U (e9J)
def f4I(xs:List IV)(h:Heap)(K:KT):Prop:=match xs with
 | [.str s]=>s∈nH/\K (.bool true) h
 |_=>False
theorem g6B: ∀xs h Q,f4I xs h Q->aU env 198 xs h Q:=by
 intro xs h Q g;unfold f4I at g;split at g
 ·rename_i s;obtain⟨i,g⟩:=g;simp only [nH,h2O,h4G,or_false]at i;rcases i with rfl|rfl|rfl|rfl|rfl|rfl|rfl|rfl|rfl<;>exact⟨60,_,h,by kernel_rfl,g⟩
 ·exact g.elim
def f4J:=bB 198 f4I e9K
theorem e9L:aT env f4J:=aI g6B (f4H)
def f4K(xs:List IV)(h:Heap)(K:KT):Prop:=match xs with
 | [.agg [.vslice none 0 2 2 ac,.vslice none 0 2 9 fc],.str s]=>lD ac fc/\(s=[102] \/s=[103])/\K (.int .i64 (if s=[102]then 0 else 1)) h
 |_=>False
theorem g6C(y G:Int)(r:List S)(D un:Int)(j:List UInt8)(m:Int)(i:List E)(u:List S)(A z:Int)(l:List UInt8)(p:Int)(g:List E)(s:List UInt8)(h:Heap)(Q:KT):dF (aV f4J) env 202 (fun k=>if k=3 then 3 else 0) bT bT [.agg [.vslice none 0 2 2 [.str [97],.int .i64 y,.str [98],.int .i64 G],.vslice none 0 2 9 [.str [102],.vslice none 1 2 1 [.str [120],.str [121]],.vslice none 1 2 1 [.str [105],.str [106]],.vslice none 0 r.length 17 (aX r),.int .i64 D,.int .i64 un,.str j,.int .i64 m,.vslice none 0 i.length 5 (aW i),.str [103],.vslice none 1 1 1 [.str [110]],.vslice none 1 1 1 [.str [105]],.vslice none 0 u.length 17 (aX u),.int .i64 A,.int .i64 z,.str l,.int .i64 p,.vslice none 0 g.length 5 (aW g)]],.str s] h Q=(
 aC (aN [IV.agg [IV.vslice none 0 2 2 [IV.str [97],iI y,IV.str [98],iI G],IV.vslice none 0 2 9 [IV.str [102],IV.vslice none 1 2 1 [IV.str [120],IV.str [121]],IV.vslice none 1 2 1 [IV.str [105],IV.str [106]],IV.vslice none 0 r.length 17 (aX r),iI D,iI un,IV.str j,iI m,IV.vslice none 0 i.length 5 (aW i),IV.str [103],IV.vslice none 1 1 1 [IV.str [110]],IV.vslice none 1 1 1 [IV.str [105]],IV.vslice none 0 u.length 17 (aX u),iI A,iI z,IV.str l,iI p,IV.vslice none 0 g.length 5 (aW g)]],IV.str s]) (aM ([102]==s) (Q (.int .i64 0) h) (aM ([103]==s) (Q (.int .i64 1) h) (Q (.int .i64 (-1)) h)))):=by kernel_rfl
theorem g6D: ∀xs h Q,f4K xs h Q->aU env 202 xs h Q:=by
 intro xs h Q g;unfold f4K at g;split at g
 ·rename_i T O s;obtain⟨⟨u,L,z,⟨K,un,j,m,r⟩,G,⟨D,y,l,p,i⟩,rfl,rfl⟩,A,g⟩:=g;refine aS (e9L) (g6C u L z K un j m r G D y l p i s h Q) ?_;delta iI;refine aA (by simp only [aN,bL,bG,bW,bP,cI,h1L]) ?_;rcases A with rfl|rfl
  ·exact aD (fun _=>g) (fun c=>absurd c (by decide))
  ·exact aD (fun c=>absurd c (by decide)) (fun _=>aD (fun _=>g) (fun c=>absurd c (by decide)))
 ·exact g.elim
def f4L:=bB 202 f4K f4J
theorem e9M:aT env f4L:=aI g6D (e9L)
def d6T(xs:List IV)(h:Heap)(K:KT):Prop:=match xs with
 | [.int .i64 op]=>K (.bool (decide (4<=op/\op<=18))) h
 |_=>False
theorem g1V(op:Int)(h:Heap)(Q:KT):dF (aV f4L) env 220 dV bT bT [.int .i64 op] h Q=(
 aM (decide (op>=4)) (Q (.bool (decide (op<=18))) h) (Q (.bool false) h)):=by kernel_rfl
theorem g1W: ∀xs h Q,d6T xs h Q->aU env 220 xs h Q:=by
 intro xs h Q g;unfold d6T at g;split at g
 ·rename_i op;refine aS (e9M) (g1V op h Q) ?_;refine dW (fun c=>cO g ?_) (fun c=>cO g ?_)
  ·congr 1
   rw [decide_eq_decide];omega
  ·congr 1
   rw [decide_eq_false_iff_not];omega
 ·exact g.elim
def d6U:=bB 220 d6T f4L
theorem d6V:aT env d6U:=aI g1W (e9M)
def d6W(xs:List IV)(h:Heap)(K:KT):Prop:=match xs with
 | [.agg [.int .i64 k,.int .i64 n,.str nm,.int .i64 op,.vslice none 0 m 5 c]]=>(k=0/\n=0/\nm=[]/\op=0/\m=0/\c=[])/\K (.bool true) h
 |_=>False
theorem g1X(k n:Int)(nm:List UInt8)(op:Int)(m:Nat)(c:List IV)(h:Heap)(Q:KT):dF (aV d6U) env 230 dV bT bT [.agg [.int .i64 k,.int .i64 n,.str nm,.int .i64 op,.vslice none 0 m 5 c]] h Q=(
 aC (aN [IV.agg [.int .i64 k,iI n,IV.str nm,iI op,IV.vslice none 0 m 5 c]]) (aM (k==0) (aM (n==0) (aM (nm==[]) (aM (op==0) (Q (.bool ((m:Int)==0)) h) (Q (.bool false) h)) (Q (.bool false) h)) (Q (.bool false) h)) (Q (.bool false) h))):=by kernel_rfl
theorem g1Y: ∀xs h Q,d6W xs h Q->aU env 230 xs h Q:=by
 intro xs h Q g;unfold d6W at g;split at g
 ·rename_i k n nm op m c;refine aS (d6V) (g1X k n nm op m c h Q) ?_;delta iI;obtain⟨⟨rfl,rfl,rfl,rfl,rfl,rfl⟩,g⟩:=g;exact aA rfl g
 ·exact g.elim
def d6X:=bB 230 d6W d6U
theorem d6Y:aT env d6X:=aI g1Y (d6V)
def g1Z(k n:Int)(nm:List UInt8)(op:Int)(ks:List E):Inv':=hJ (Nat×Nat) (fun x=>[(1,.l 1 0),(3,.v (.int .i64 (x.2:Int))),(4,.v (.int .i64 (x.1:Int)))]) (fun _=>[(1,[.int .i64 k,.int .i64 n,.str nm,.int .i64 op,.vslice none 0 ks.length 5 (aW ks)])]) (fun _=>Heap.empty) (fun x=>x.1<=ks.length/\x.2=Es.dp (ks.take x.1)) (fun x=>ks.length-x.1)
def b6G(d:Nat)(xs:List IV)(h:Heap)(K:KT):Prop:=match xs with
 | [.agg [.int .i64 k,.int .i64 n,.str nm,.int .i64 op,.vslice none 0 m 5 c]]=> ∃(ks:List E)(f:Int),(m=ks.length/\c=aW ks)/\(Es.dp ks<d/\Es.dp ks<=1000/\ks.length<=3/\Es.wf f ks)/\K (.int .i64 (Es.dp ks:Int)) h
 |_=>False
def a8Y(k n op:Int)(nm:List UInt8)(ks:List E):=[iI k,iI n,IV.str nm,iI op,IV.vslice none 0 ks.length 5 (aW ks)]
def b6H:=TV.l 1 0
theorem g2A(j:Nat)(k n:Int)(nm:List UInt8)(op:Int)(ks:List E)(h:Heap)(Q:KT):dF (aV (bB 197 (b6G j) d6X)) env 197 dV (tK 4 (g1Z k n nm op ks)) bT [.agg [.int .i64 k,.int .i64 n,.str nm,.int .i64 op,.vslice none 0 ks.length 5 (aW ks)]] h Q=(
 aC (aN [IV.agg (a8Y k n op nm ks)]) ((∃(x:Nat×Nat),some b6H=some b6H/\tI 0=tI (x.2:Int)/\tI 0=tI (x.1:Int)/\some (a8Y k n op nm ks)=some (a8Y k n op nm ks)/\Heap.mk PT.nil 0=Heap.mk PT.nil 0/\(x.1<=ks.length/\x.2=Es.dp (List.take x.1 ks))/\True)/\∀(x:Nat×Nat)(b:FF),x.1<=ks.length/\x.2=Es.dp (List.take x.1 ks)->aM (decide ((x.1:Int)< (ks.length:Int))) (aC (decide (0<=(x.1:Int)) &&decide ((x.1:Int)< (ks.length:Int))) (aK .i64 (aW ks) ((x.1:Int).toNat*5) fun p=>aK .i64 (aW ks) (((x.1):Int).toNat*5+1) fun A=>bZ (aW ks) ((x.1:Int).toNat*5+1+1) fun(z:List UInt8)=>aK .i64 (aW ks) ((x.1:Int).toNat*5+1+1+1) fun r=>bH 5 (aW ks) ((x.1:Int).toNat*5+1+1+1+1) fun(y:Option Nat)(u l:Nat)(m:List IV)=> ∃(g:List E),∃(f:Int),(l=g.length/\m=aW g)/\(Es.dp g<j/\Es.dp g<=1000/\g.length<=(3:Nat)/\Es.wf f g)/\∃(i:Nat×Nat),some b6H=some b6H/\tI (if wW ((1:Int)+((Es.dp g):Int))>(x.2:Int)then wW ((1:Int)+((Es.dp g):Int))else(x.2:Int))=tI (i.2:Int)/\tI (wW ((x.1:Int)+1))=tI (i.1:Int)/\some (a8Y k n op nm ks)=some (a8Y k n op nm ks)/\Heap.mk PT.nil 0=Heap.mk PT.nil 0/\(i.1<=ks.length/\i.2=Es.dp (List.take i.1 ks))/\ks.length-i.1<ks.length-x.1)) (Q (.int .i64 (x.2:Int)) h))):=by kernel_rfl
theorem g2B: ∀d xs h Q,b6G d xs h Q->aU env 197 xs h Q:=by
 intro d
 induction d with
 |zero=>
  intro xs h Q g;unfold b6G at g;split at g
  ·rename_i k n nm op m c;obtain⟨ks,f,⟨rfl,rfl⟩,⟨hd,z,p,r⟩,g⟩:=g;omega
  ·exact g.elim
 |succ dd ih=>
  intro xs h Q g;unfold b6G at g;split at g
  ·rename_i k n nm op m c;obtain⟨ks,f,⟨rfl,rfl⟩,⟨hd,z,p,r⟩,g⟩:=g;refine aS (aI ih (d6Y)) (g2A dd k n nm op ks h Q) ?_;delta a8Y b6H tI wW iI;refine aA (by simp only [aN,bL,bG,bW,bP,cI,h1L]) ⟨⟨(0,0),rfl,rfl,rfl,rfl,rfl,⟨h1N _,rfl⟩,trivial⟩,?_⟩;rintro⟨i,m⟩ _ ⟨y,u⟩;dsimp only at y u⊢;subst u;refine dW (fun c=>?_) (fun c=>?_)
   ·have j:i<ks.length:=by omega
    refine aP (by omega) (b0Y j (by rw [h0Z]) fun G K A D q e=>?_);have h1:=Es.dp_mem (h1B j);have h2:ks[i].dp=Es.dp q:=by rw [e];rfl
    have h3:=Es.dp_take j;have h4:=Es.dp_le (ks:=ks) i;have l:=EW.of (Es.wf_mem r (h1B j));rw [e]at l;refine⟨q,f,⟨rfl,rfl⟩,⟨by omega,by omega,l.1,l.2⟩,(i+1,Es.dp (ks.take (i+1))),rfl,?_,(by(try dsimp only);rw [h0X _ (by omega)];rfl),rfl,rfl,⟨j,rfl⟩,by dsimp only;omega⟩;dsimp only;rw [h0X _ (by omega)]
    congr 3
    split<;>omega
   ·rw [h1H (by omega)];exact g
  ·exact g.elim
def d6Z:=bB 197 (fun xs h K=> ∃d,b6G d xs h K) d6X
theorem d7A:aT env d6Z:=aI (fun xs h Q g=>g.elim fun d g=>g2B d xs h Q g) (d6Y)
def f4M(l:List S)(dp:Nat):Inv':=hJ (Nat×Nat×Nat×Nat) (fun x=>[(0,.v (.vslice none 0 l.length 17 (aX l))),(1,.v (.int .i64 (dp:Int))),(7,.v (.int .i64 (x.2.1:Int))),(8,.v (.int .i64 (x.2.2.1:Int))),(9,.v (.int .i64 (x.2.2.2:Int))),(10,.v (.int .i64 (x.1:Int)))]) (fun _=>[]) (fun _=>Heap.empty)
 (fun x=>x.1<=l.length/\x.2.1=Ss.cnt (l.take x.1)/\x.2.2.1=Ss.whl (l.take x.1)/\x.2.2.2=Ss.dp dp (l.take x.1)) (fun x=>l.length-x.1)
def b6I(d:Nat)(xs:List IV)(h:Heap)(K:KT):Prop:=match xs with
 | [.vslice none 0 m 17 c,.int .i64 q]=> ∃(l:List S)(dp:Nat),(m=l.length/\c=aX l/\q=(dp:Int))/\(Ss.cnt l<d/\Ss.cnt l<=1000/\Ss.dp dp l<=1000/\dp+Ss.cnt l<=2000)/\K (.tuple [.int .i64 (Ss.cnt l:Int),.int .i64 (Ss.whl l:Int),.int .i64 (Ss.dp dp l:Int)]) h
 |_=>False
def a8Z(l:List S)(x:Nat×Nat×Nat×Nat):=decide (0<=(x.1:Int)) &&decide ((x.1:Int)< (l.length:Int))
def b6J(l:List S):=TV.v (.vslice none 0 l.length 17 (aX l))
def mW(x:Nat×Nat×Nat×Nat):=x.2.2
def b6K:=TV.v (.int .i64 0)
def b6L(dp:Nat):=TV.v (.int .i64 (dp:Int))
abbrev d7B(j i:Nat)(g:List M10.S):=Ss.cnt g<j/\Ss.cnt g<=1000/\Ss.dp i g<=1000/\i+Ss.cnt g<=2000
abbrev d7C(j i:Nat)(g:List M10.S):=Ss.cnt g<j/\Ss.cnt g<=1000/\Ss.dp i g<=1000/\i+Ss.cnt g<=2000
def c1Q(dp i g:Nat)(l:List S)(m p:List M10.S)(x:Nat×Nat×Nat×Nat)(r:Int):Prop:= ∃(j:Nat×Nat×Nat×Nat),some (b6J l)=some (b6J l)/\some (b6L dp)=some (b6L dp)/\tI (wW (wW (wW ((x.2.1:Int)+1)+((Ss.cnt m):Int))+((Ss.cnt p):Int)))=tI (j.2.1:Int)/\tI (r)=tI (j.2.2.1:Int)/\tI (if(if((Ss.dp g p):Int)>(↑(Ss.dp i m)
 :Int)then((Ss.dp g p):Int)else((Ss.dp i m):Int))>if(dp:Int)>(↑((mW x).2):Int)then(dp:Int)else(↑((mW x).2):Int)then if((Ss.dp g p):Int)>((Ss.dp i m):Int)then((Ss.dp g p):Int)else((Ss.dp i m):Int)else if
 (dp:Int)>(↑((mW x).2):Int)then(dp:Int)else(↑((mW x).2):Int))=tI (j.2.2.2:Int)/\tI (wW ((x.1:Int)+1))=tI (j.1:Int)/\Heap.mk PT.nil 0=Heap.mk PT.nil 0/\(j.1<=l.length/\j.2.1=Ss.cnt (List.take j.1 l)/\j.2.2.1=Ss.whl (List.take j.1 l)
 /\j.2.2.2=Ss.dp dp (List.take j.1 l))/\l.length-j.1<l.length-x.1
theorem g2C(p:Nat)(l:List S)(dp:Nat)(h:Heap)(Q:KT):dF (aV (bB 195 (b6I p) d6Z)) env 195 dV (tK 4 (f4M l dp)) bT [.vslice none 0 l.length 17 (aX l),.int .i64 (dp:Int)] h Q=(
 aC (aN [IV.vslice none 0 l.length 17 (aX l),iI (dp:Int)]) ((∃(x:Nat×Nat×Nat×Nat),some (b6J l)=some (b6J l)/\some (b6L dp)=some (b6L dp)/\some b6K=tI (x.2.1:Int)/\some b6K=tI (↑((mW x).1):Int)/\some b6K=tI (↑((mW x).2):Int)/\some b6K=tI (x.1:Int)/\Heap.mk PT.nil 0=Heap.mk PT.nil 0/\(x.1<=l.length/\Prod.fst x.2=Ss.cnt (List.take x.1 l)/\Prod.fst (mW x)=Ss.whl (List.take x.1 l)/\Prod.snd (mW x)=Ss.dp dp (List.take x.1 l))/\True)/\∀(x:Nat×Nat×Nat×Nat)(b:FF),x.1<=l.length/\x.2.1=Ss.cnt (List.take x.1 l)/\Prod.fst (mW x)=Ss.whl (List.take x.1 l)/\Prod.snd (mW x)=Ss.dp dp (List.take x.1 l)->aM (decide ((x.1:Int)< (l.length:Int))) (aC (a8Z l x) (aK .i64 (aX l) ((x.1:Int).toNat*17+0) fun(G:Int)=>aM (G==4) (aC (a8Z l x) (bH 17 (aX l) ((x.1:Int).toNat*17+15) fun(X:Option Nat)(Z L:Nat)(c4:List IV)=> ∃(m:List M10.S),∃(j:Nat),(L=m.length/\c4=aX m/\wW ((dp:Int)+(1:Int))=(j:Int))/\(d7B p j m)/\aC (a8Z l x) (bH 17 (aX l) ((x.1:Int).toNat*17+16) fun(i5:Option Nat)(V A:Nat)(K:List IV)=> ∃(g:List M10.S),∃(i:Nat),(A=g.length/\K=aX g/\wW ((dp:Int)+1)=(i:Int))/\(d7C p i g)/\c1Q dp j i l m g x (wW (wW (wW ((↑((mW x).1):Int)+1)+((Ss.whl m):Int))+((Ss.whl g):Int)))))) (aC (a8Z l x) (bH 17 (aX l) ((x.1:Int).toNat*17+15) fun(Y:Option Nat)(T z:Nat)(r:List IV)=> ∃(m:List M10.S),∃(j:Nat),(z=m.length/\r=aX m/\wW ((dp:Int)+1)=(j:Int))/\(d7B p j m)/\aC (a8Z l x) (bH 17 (aX l) ((x.1:Int).toNat*17+16) fun(O:Option Nat)(D u:Nat)(y:List IV)=> ∃(g:List M10.S),∃(i:Nat),(u=g.length/\y=aX g/\wW ((dp:Int)+1)=(i:Int))/\(d7C p i g)/\c1Q dp j i l m g x (wW (wW ((↑((mW x).1):Int)+((Ss.whl m):Int))+((Ss.whl g):Int)))))))) (Q (.tuple [.int .i64 (x.2.1:Int),iI (↑((mW x).1):Int),iI (↑((mW x).2):Int)]) h))):=by kernel_rfl
theorem g2D: ∀d xs h Q,b6I d xs h Q->aU env 195 xs h Q:=by
 intro d
 induction d with
 |zero=>
  intro xs h Q j;unfold b6I at j;split at j
  ·rename_i m c q;obtain⟨l,dp,⟨rfl,rfl,rfl⟩,⟨hd,T,z,A⟩,j⟩:=j;omega
  ·exact j.elim
 |succ dd ih=>
  intro xs h Q j;unfold b6I at j;split at j
  ·rename_i m c q;obtain⟨l,dp,⟨rfl,rfl,rfl⟩,⟨hd,T,z,A⟩,j⟩:=j;refine aS (aI ih (d7A)) (g2C dd l dp h Q) ?_;delta c1Q a8Z b6J mW b6K b6L d7B d7C tI wW iI;have lc:=Ss.len_cnt l;refine aA (by simp only [aN,bL,bG,bW,bP,cI,h1L]) ⟨⟨(0,0,0,0),rfl,rfl,rfl,rfl,rfl,rfl,rfl,⟨h1N _,rfl,rfl,rfl⟩,trivial⟩,?_⟩;rintro⟨i,a,b,m⟩ _ ⟨O,L,y,G⟩;dsimp only at O L y G⊢;subst L y G;refine dW (fun c=>?_) (fun c=>?_)
   ·have g:i<l.length:=by omega
    obtain⟨k,nm,to,n,ak,an,a1,Y,a0,vk,vn,V,X,Z,K,p,r,e⟩:=g1A l[i];have h1:=Ss.cnt_mem (h1B g);have h2:=Ss.dp_mem (d:=dp) (h1B g);have e1:l[i].cnt=1+Ss.cnt p+Ss.cnt r:=by rw [e];rfl
    have e2:l[i].dp dp=max dp (max (Ss.dp (dp+1) p) (Ss.dp (dp+1) r)):=by rw [e];rfl
    have D:l[i].whl=(if k=4 then 1 else 0)+Ss.whl p+Ss.whl r:=by rw [e];rfl
    have t1:=Ss.cnt_take g;have t2:=Ss.whl_take g;have t3:=Ss.dp_take (d:=dp) g;have b1:=Ss.cnt_le (l:=l) (i+1);have b2:=Ss.whl_cnt (l.take i);have b3:=Ss.dp_le (d:=dp) (l:=l) i;have b4:=Ss.whl_cnt p;have b5:=Ss.whl_cnt r;refine aP (by omega) (f2Y g e (by rw [h0Z];rfl) (aD (fun u=>?_) (fun u=>?_)))
    ·rw [beq_iff_eq]at u;rw [if_pos u]at D;refine aP (by omega) (a8N g e (by rw [h0Z]) ⟨p,dp+1,⟨rfl,rfl,(by rw [h0X _ (by omega)];rfl)⟩,⟨by omega,by omega,by omega,by omega⟩,aP (by omega) (a8O g e (by rw [h0Z]) ⟨r,dp+1,⟨rfl,rfl,(by rw [h0X _ (by omega)];rfl)⟩,⟨by omega,by omega,by omega,by omega⟩,(i+1,Ss.cnt (l.take (i+1)),Ss.whl (l.take (i+1)),Ss.dp dp (l.take (i+1))),rfl,rfl,?_,?_,?_,(by(try dsimp only);rw [h0X _ (by omega)];rfl),rfl,⟨g,rfl,rfl,rfl⟩,by dsimp only;omega⟩)⟩)
     ·dsimp only;rw [h0X (_+1) (by omega),h0X (_+1+_) (by omega),h0X _ (by omega)]
      congr 3
      omega
     ·dsimp only;rw [h0X (_+1) (by omega),h0X (_+1+_) (by omega),h0X _ (by omega)]
      congr 3
      omega
     ·dsimp only
      congr 3
      split<;>split<;>split<;>omega
    ·rw [beq_eq_false_iff_ne]at u;rw [if_neg u]at D;refine aP (by omega) (a8N g e (by rw [h0Z]) ⟨p,dp+1,⟨rfl,rfl,(by rw [h0X _ (by omega)];rfl)⟩,⟨by omega,by omega,by omega,by omega⟩,aP (by omega) (a8O g e (by rw [h0Z]) ⟨r,dp+1,⟨rfl,rfl,(by rw [h0X _ (by omega)];rfl)⟩,⟨by omega,by omega,by omega,by omega⟩,(i+1,Ss.cnt (l.take (i+1)),Ss.whl (l.take (i+1)),Ss.dp dp (l.take (i+1))),rfl,rfl,?_,?_,?_,(by(try dsimp only);rw [h0X _ (by omega)];rfl),rfl,⟨g,rfl,rfl,rfl⟩,by dsimp only;omega⟩)⟩)
     ·dsimp only;rw [h0X (_+1) (by omega),h0X (_+1+_) (by omega),h0X _ (by omega)]
      congr 3
      omega
     ·dsimp only;rw [h0X (((Ss.whl (List.take i l):Nat):Int)+((Ss.whl p:Nat):Int)) (by omega),h0X _ (by omega)]
      congr 3
      omega
     ·dsimp only
      congr 3
      split<;>split<;>split<;>omega
   ·rw [h1H (by omega)];exact j
  ·exact j.elim
def d7D:=bB 195 (fun xs h K=> ∃d,b6I d xs h K) d6Z
theorem d7E:aT env d7D:=aI (fun xs h Q g=>g.elim fun d g=>g2D d xs h Q g) (d7A)
def e9N(l:List S):Inv':=hJ Nat (fun i=>[(0,.v (.vslice none 0 l.length 17 (aX l))),(3,.v (.int .i64 (i:Int)))]) (fun _=>[]) (fun _=>Heap.empty) (fun i=>i<=l.length) (fun i=>l.length-i)
def d7F(d:Nat)(xs:List IV)(h:Heap)(K:KT):Prop:=match xs with
 | [.vslice none 0 m 17 c]=> ∃(l:List S)(f:Int),(m=l.length/\c=aX l)/\(Ss.cnt l<d/\Ss.cnt l<=1000/\Ss.wf f l/\Ss.ed 5 l)/\K (.bool false) h
 |_=>False
abbrev a9A(d:Nat)(ks:List E)(f:Int):=Es.dp ks<d/\Es.dp ks<=1000/\ks.length<=3/\Es.wf f ks
def b6M(l:List S):=TV.v (.vslice none 0 l.length 17 (aX l))
def a9B(ks:List E):=decide (((Es.dp ks):Int)>20)
def b1M(l:List S)(x:Nat):Prop:= ∃(g:Nat),some (b6M l)=some (b6M l)/\tI (wW ((x:Int)+1))=tI (g:Int)/\Heap.mk PT.nil 0=Heap.mk PT.nil 0/\Nat.le g l.length/\l.length-g<l.length-x
theorem g6E(T:Nat)(l:List S)(h:Heap)(Q:KT):dF (aV (bB 196 (d7F T) d7D)) env 196 (fun k=>if k=9 then 3 else 0) (tK 3 (e9N l)) bT [.vslice none 0 l.length 17 (aX l)] h Q=(
 aC (aN [IV.vslice none 0 l.length 17 (aX l)]) ((∃(x:Nat),some (b6M l)=some (b6M l)/\tI 0=tI (x:Int)/\Heap.mk PT.nil 0=Heap.mk PT.nil 0/\Nat.le x l.length/\True)/\∀(x:Nat)(b:FF),x<=l.length->aM (decide ((x:Int)< (l.length:Int))) (aC (decide (0<=(x:Int)) &&decide ((x:Int)< (l.length:Int))) (aK .i64 (aX l) ((x:Int).toNat*17) fun n0=>bZ (aX l) ((x:Int).toNat*(17:Nat)+1) fun(s1:List UInt8)=>bZ (aX l) ((x:Int).toNat*17+1+1) fun(s2:List UInt8)=>aK .i64 (aX l) ((x:Int).toNat*17+1+1+1) fun n3=>aK .i64 (aX l) ((x:Int).toNat*17+1+1+1+1) fun n4=>aK .i64 (aX l) ((x:Int).toNat*17+1+1+1+1+1) fun n5=>bZ (aX l) ((x:Int).toNat*17+1+1+(1:Nat)+1+1+1) fun(s6:List UInt8)=>aK .i64 (aX l) ((x:Int).toNat*17+1+1+1+1+1+1+1) fun n7=>bH 5 (aX l) ((x:Int).toNat*17+1+(1:Nat)+1+1+1+1+1+1) fun(i8:Option Nat)(e9 G:Nat)(D:List IV)=>aK .i64 (aX l) ((x:Int).toNat*17+1+1+1+1+1+1+1+1+(1:Nat)) fun c8=>aK .i64 (aX l) ((x:Int).toNat*17+1+1+1+1+1+1+1+1+1+1) fun a9=>bZ (aX l) ((x:Int).toNat*17+1+1+(1:Nat)+1+1+1+1+1+1+1+1) fun(c0:List UInt8)=>aK .i64 (aX l) ((x:Int).toNat*17+1+1+1+1+1+1+1+1+1+(1:Nat)+1+1) fun b6=>bH 5 (aX l) ((x:Int).toNat*17+1+1+1+1+1+1+1+1+1+1+1+1+1) fun(b4:Option Nat)(b7 O:Nat)(K:List IV)=>bH 5 (aX l) ((x:Int).toNat*17+1+1+1+1+1+1+1+1+1+1+1+1+1+1) fun(a5:Option Nat)(a8 m:Nat)(g:List IV)=>bH 17 (aX l) ((x:Int).toNat*17+1+1+1+1+1+1+1+1+1+1+1+1+1+1+1) fun(a1:Option Nat)(c5 A:Nat)(p:List IV)=>bH 17 (aX l) ((x:Int).toNat*17+1+1+1+1+1+1+1+1+1+1+1+1+1+1+1+1) fun(a2:Option Nat)(a3 L:Nat)(r:List IV)=> ∃(d:Nat),∃(ks:List E),∃(f:Int),(G=ks.length/\D=aW ks)/\(a9A d ks f)/\aM (a9B ks) (Q (.bool true) h) (∃(d:Nat),∃(ks:List E),∃(f:Int),(O=ks.length/\K=aW ks)/\(a9A d ks f)/\aM (a9B ks) (Q (.bool true) h) (∃(j:List M10.S),∃(f:Int),(A=j.length/\p=aX j)/\(Ss.cnt j<T/\Ss.cnt j<=1000/\Ss.wf f j/\Ss.ed 5 j)/\∃(i:List M10.S),∃(f:Int),(L=i.length/\r=aX i)/\(Ss.cnt i<T/\Ss.cnt i<=1000/\Ss.wf f i/\Ss.ed 5 i)/\aM (decide (0< (m:Int))) (aC (true&&decide (0< (m:Int))) (aK .i64 g 0 fun b3=>aK .i64 g 1 fun Z=>bZ g 2 fun(c9:List UInt8)=>aK .i64 g 3 fun b5=>bH 5 g 4 fun(a4:Option Nat)(c3 y:Nat)(Y:List IV)=> ∃(d:Nat),∃(ks:List E),∃(f:Int),(y=ks.length/\Y=aW ks)/\(a9A d ks f)/\aM (a9B ks) (Q (.bool true) h) (aM (decide (1< (m:Int))) (aC (true&&decide (1< (m:Int))) (aK .i64 g 5 fun a7=>aK .i64 g 6 fun c1=>bZ g 7 fun(b1:List UInt8)=>aK .i64 g 8 fun a0=>bH 5 g 9 fun(b2:Option Nat)(b0 V:Nat)(u:List IV)=> ∃(d:Nat),∃(ks:List E),∃(f:Int),(V=ks.length/\u=aW ks)/\(a9A d ks f)/\aM (a9B ks) (Q (.bool true) h) (aM (decide (2< (m:Int))) (aC (true&&decide (2< (m:Int))) (aK .i64 g 10 fun c6=>aK .i64 g 11 fun(a6:Int)=>bZ g 12 fun(c7:List UInt8)=>aK .i64 g 13 fun b8=>bH 5 g 14 fun(b9:Option Nat)(c2 X:Nat)(z:List IV)=> ∃(d:Nat),∃(ks:List E),∃(f:Int),(X=ks.length/\z=aW ks)/\(a9A d ks f)/\aM (a9B ks) (Q (.bool true) h) False)) (b1M l x)))) (b1M l x)))) (b1M l x))))) (Q (.bool false) h))):=by kernel_rfl
theorem g6F: ∀d xs h Q,d7F d xs h Q->aU env 196 xs h Q:=by
 intro d
 induction d with
 |zero=>
  intro xs h Q j;unfold d7F at j;split at j
  ·rename_i m c;obtain⟨l,f,⟨rfl,rfl⟩,⟨hd,hb,hw,he⟩,j⟩:=j;omega
  ·exact j.elim
 |succ dd ih=>
  intro xs h Q j;unfold d7F at j;split at j
  ·rename_i m c;obtain⟨l,f,⟨rfl,rfl⟩,⟨hd,hb,hw,he⟩,j⟩:=j;refine aS (aI ih (d7E)) (g6E dd l h Q) ?_;delta b1M a9A b6M a9B tI wW;have lc:=Ss.len_cnt l;refine aA (by simp only [aN,bL,bG,bW,bP,cI,h1L]) ⟨⟨0,rfl,rfl,rfl,h1N _,trivial⟩,?_⟩;rintro i _ hi;refine dW (fun c=>?_) (fun c=>j);have g:i<l.length:=by omega
   refine aP (by omega) (e5U g (by rw [h0Z]) fun k nm to n ak an a8 a6 y vk vn a3 a4 u p X el e=>?_);have h1:=Ss.cnt_mem (h1B g);have e1:l[i].cnt=1+Ss.cnt X+Ss.cnt el:=by rw [e];rfl
   have r:=Ss.wf_mem hw (h1B g);have z:=Ss.ed_mem he (h1B g);rw [e]at r z;obtain⟨hn,L,T⟩:=r;obtain⟨⟨ha,hv,hr⟩,O,V⟩:=z;have a9:Es.dp y<=5:=ha;have a0:Es.dp u<=5:=hv;have h2:=hn.args2;obtain⟨w1,w2,w3⟩:=hn.ew;refine⟨10,y,f,⟨rfl,rfl⟩,⟨by omega,by omega,w1.1,w1.2⟩,nG (by omega) ⟨10,u,f,⟨rfl,rfl⟩,⟨by omega,by omega,w2.1,w2.2⟩,nG (by omega) ⟨X,f,⟨rfl,rfl⟩,⟨by omega,by omega,L,O⟩,el,f,⟨rfl,rfl⟩,⟨by omega,by omega,T,V⟩,dW (fun c1=>?_) (fun c1=>⟨i+1,rfl,(by(try dsimp only);rw [h0X _ (by omega)];rfl),rfl,g,by omega⟩)⟩⟩⟩;have K:0<p.length:=by omega
   refine aA (by rw [h2G,decide_eq_true_eq];exact c1) (b0Y (i:=0) K rfl fun k2 n2 a1 a7 q e2=>?_);have q1:Es.dp q<=5:=by have:=hr _ (h1B K);rw [e2]at this;exact this
   have D:=EW.of (Es.wf_mem w3 (h1B K));rw [e2]at D;refine⟨10,q,f,⟨rfl,rfl⟩,⟨by omega,by omega,D.1,D.2⟩,nG (by omega) (dW (fun Z=>?_) (fun Z=>⟨i+1,rfl,(by(try dsimp only);rw [h0X _ (by omega)];rfl),rfl,g,by omega⟩))⟩;have A:1<p.length:=by omega
   refine aA (by rw [h2G,decide_eq_true_eq];exact Z) (b0Y (i:=1) A rfl fun k3 n3 a2 a5 q3 Y=>?_);have q2:Es.dp q3<=5:=by have:=hr _ (h1B A);rw [Y]at this;exact this
   have G:=EW.of (Es.wf_mem w3 (h1B A));rw [Y]at G;exact⟨10,q3,f,⟨rfl,rfl⟩,⟨by omega,by omega,G.1,G.2⟩,nG (by omega) (nG (by omega) ⟨i+1,rfl,(by(try dsimp only);rw [h0X _ (by omega)];rfl),rfl,g,by omega⟩)⟩
  ·exact j.elim
def f4N:=bB 196 (fun xs h K=> ∃d,d7F d xs h K) d7D
theorem e9O:aT env f4N:=aI (fun xs h Q g=>g.elim fun d g=>g6F d xs h Q g) (d7E)
def f4O(xs:List IV)(h:Heap)(K:KT):Prop:=match xs with
 | [.agg [.vslice none 0 2 2 ac,.vslice none 0 2 9 fc]]=>qG ac fc/\K (.bool false) h
 |_=>False
def oZ:=IV.bool true
abbrev d7G(d dp:Nat)(l:List M10.S):=Ss.cnt l<d/\Ss.cnt l<=1000/\Ss.dp dp l<=1000/\dp+Ss.cnt l<=2000
theorem g6G(z A:Int)(j:List S)(K un:Int)(r:List UInt8)(u:Int)(i:List E)(m:List S)(G D:Int)(p:List UInt8)(y:Int)(g:List E)(h:Heap)(Q:KT):dF (aV f4N) env 142 (fun k=>if k=5 then 3 else if k=10 then 3 else 0) bT bT [.agg [.vslice none 0 2 2 [.str [97],.int .i64 z,.str [98],.int .i64 A],.vslice none 0 2 9 [.str [102],.vslice none 1 2 1 [.str [120],.str [121]],.vslice none 1 2 1 [.str [105],.str [106]],.vslice none 0 j.length 17 (aX j),.int .i64 K,.int .i64 un,.str r,.int .i64 u,.vslice none 0 i.length 5 (aW i),.str [103],.vslice none 1 1 1 [.str [110]],.vslice none 1 1 1 [.str [105]],.vslice none 0 m.length 17 (aX m),.int .i64 G,.int .i64 D,.str p,.int .i64 y,.vslice none 0 g.length 5 (aW g)]]] h Q=(
 aC (aN [IV.agg [.vslice none 0 2 2 [IV.str [97],iI z,IV.str [98],iI A],IV.vslice none 0 2 9 [IV.str [102],IV.vslice none 1 2 1 [IV.str [120],IV.str [121]],IV.vslice none 1 2 1 [IV.str [105],IV.str [106]],IV.vslice none 0 j.length 17 (aX j),iI K,iI un,IV.str r,iI u,IV.vslice none 0 (i.length) 5 (aW i),IV.str [103],IV.vslice none 1 1 1 [IV.str [110]],IV.vslice none 1 1 1 [IV.str [105]],IV.vslice none 0 m.length 17 (aX m),iI G,iI D,IV.str p,iI y,IV.vslice none 0 g.length 5 (aW g)]]]) (aM (decide (z<1)) (Q oZ h) (aM (decide (z>16)) (Q oZ h) (aM (decide (A<1)) (Q oZ h) (aM (decide (A>16)) (Q oZ h) (∃(d:Nat),∃(l:List M10.S),∃(dp:Nat),(j.length=l.length/\aX j=aX l/\(0:Int)=(dp:Int))/\(d7G d dp l)/\aM (decide (((Ss.cnt l):Int)>200)) (Q oZ h) (aM (decide (((Ss.whl l):Int)>16)) (Q oZ h) (aM (decide (((Ss.dp dp l):Int)>20)) (Q oZ h) (∃(d:Nat),∃(l:List M10.S),∃(f:Int),(j.length=l.length/\aX j=aX l)/\(Ss.cnt l<d/\Ss.cnt l<=1000/\Ss.wf f l/\Ss.ed 5 l)/\∃(d:Nat),∃(ks:List E),∃(f:Int),(i.length=ks.length/\aW i=aW ks)/\(Es.dp ks<d/\Es.dp ks<=(1000:Nat)/\ks.length<=3/\Es.wf f ks)/\aM (decide (((Es.dp ks):Int)>20)) (Q oZ h) (∃(d:Nat),∃(l:List M10.S),∃(dp:Nat),(m.length=l.length/\aX m=aX l/\(0:Int)=(dp:Int))/\(d7G d dp l)/\aM (decide (((Ss.cnt l):Int)>200)) (Q oZ h) (aM (decide (((Ss.whl l):Int)>16)) (Q oZ h) (aM (decide (((Ss.dp dp l):Int)>20)) (Q oZ h) (∃(d:Nat),∃(l:List M10.S),∃(f:Int),(m.length=l.length/\aX m=aX l)/\(Ss.cnt l<d/\Ss.cnt l<=1000/\Ss.wf f l/\Ss.ed 5 l)/\∃(d:Nat),∃(ks:List E),∃(f:Int),(g.length=ks.length/\aW g=aW ks)/\(Es.dp ks<d/\Es.dp ks<=1000/\ks.length<=3/\Es.wf f ks)/\aM (decide (((Es.dp ks):Int)>20)) (Q oZ h) (Q (.bool false) h)))))))))))))):=by kernel_rfl
theorem g6H: ∀xs h Q,f4O xs h Q->aU env 142 xs h Q:=by
 intro xs h Q m;unfold f4O at m;split at m
 ·rename_i Z Y;obtain⟨⟨K,L,r,⟨T,un,p,y,i⟩,A,⟨X,O,u,z,g⟩,V,rfl,rfl⟩,m⟩:=m;refine aS (e9O) (g6G K L r T un p y i A X O u z g h Q) ?_;delta oZ d7G iI;obtain⟨⟨a1,a2,a3,a4⟩,l,j⟩:=V;have G:=EW.of l.vw;have D:=EW.of j.vw;have x0:=l.cnt;have x1:=l.whl;have x2:=l.dp;have x3:Es.dp i<=5:=l.vd;have y0:=j.cnt;have y1:=j.whl;have y2:=j.dp;have y3:Es.dp g<=5:=j.vd;exact aA (by simp only [aN,bL,bG,bW,bP,cI,h1L]) (nG (by omega) (nG (by omega) (nG (by omega) (nG (by omega) ⟨1000,r,0,⟨rfl,rfl,rfl⟩,⟨by omega,by omega,by omega,by omega⟩,nG (by omega) (nG (by omega) (nG (by omega) ⟨1000,r,0,⟨rfl,rfl⟩,⟨by omega,by omega,l.wf,l.ed⟩,1000,i,0,⟨rfl,rfl⟩,⟨by omega,by omega,G.1,G.2⟩,nG (by omega) ⟨1000,A,0,⟨rfl,rfl,rfl⟩,⟨by omega,by omega,by omega,by omega⟩,nG (by omega) (nG (by omega) (nG (by omega) ⟨1000,A,1,⟨rfl,rfl⟩,⟨by omega,by omega,j.wf,j.ed⟩,1000,g,1,⟨rfl,rfl⟩,⟨by omega,by omega,D.1,D.2⟩,nG (by omega) m⟩))⟩⟩))⟩))))
 ·exact m.elim
def f4P:=bB 142 f4O f4N
theorem e9P:aT env f4P:=aI g6H (e9O)
def f4Q(k n:Int)(nm:List UInt8)(op:Int)(ks:List E):Inv':=hJ Nat (fun i=>[(1,.l 1 0),(3,.v (.int .i64 (i:Int)))]) (fun _=>[(1,[.int .i64 k,.int .i64 n,.str nm,.int .i64 op,.vslice none 0 ks.length 5 (aW ks)])]) (fun _=>Heap.empty) (fun i=>i<=ks.length) (fun i=>ks.length-i)
def d7H(d:Nat)(xs:List IV)(h:Heap)(K:KT):Prop:=match xs with
 | [.agg [.int .i64 k,.int .i64 n,.str nm,.int .i64 op,.vslice none 0 m 5 c]]=> ∃(ks:List E)(f:Int),(m=ks.length/\c=aW ks)/\(Es.dp ks<d/\E.wf f (.mk k n nm op ks))/\K (.bool true) h
 |_=>False
def a9C(k n op:Int)(nm:List UInt8)(ks:List E):=[iI k,iI n,IV.str nm,iI op,IV.vslice none 0 ks.length 5 (aW ks)]
def lQ:=IV.bool false
def b6N:=TV.l 1 0
def d7I(op:Int)(ks:List E)(h:Heap)(Q:KT):=aM ((ks.length:Int)==1) (aM (op==20) (Q (.bool true) h) (Q (.bool (op==21)) h)) (Q lQ h)
theorem g6I(j:Nat)(k n:Int)(nm:List UInt8)(op:Int)(ks:List E)(h:Heap)(Q:KT):dF (aV (bB 200 (d7H j) f4P)) env 200 dV (tK 3 (f4Q k n nm op ks)) bT [.agg [.int .i64 k,.int .i64 n,.str nm,.int .i64 op,.vslice none 0 ks.length 5 (aW ks)]] h Q=(
 aC (aN [IV.agg (a9C k n op nm ks)]) ((∃(x:Nat),some b6N=some b6N/\tI 0=tI (x:Int)/\some (a9C k n op nm ks)=some (a9C k n op nm ks)/\Heap.mk PT.nil 0=Heap.mk PT.nil 0/\Nat.le x (ks.length)/\True)/\∀(x:Nat)(b:FF),x<=ks.length->aM (decide ((x:Int)< (ks.length:Int))) (aC (decide (0<=(x:Int)) &&decide ((x:Int)< (ks.length:Int))) (aK .i64 (aW ks) ((x:Int).toNat*5) fun l=>aK .i64 (aW ks) ((x:Int).toNat*5+1) fun y=>bZ (aW ks) ((x:Int).toNat*5+1+1) fun(u:List UInt8)=>aK .i64 (aW ks) ((x:Int).toNat*5+1+1+1) fun m=>bH 5 (aW ks) ((x:Int).toNat*5+1+1+1+1) fun(A:Option Nat)(z p:Nat)(r:List IV)=> ∃(g:List E),∃(f:Int),(p=g.length/\r=aW g)/\(Es.dp g<j/\E.wf f (E.mk l y u m g))/\∃(i:Nat),some b6N=some b6N/\tI (wW ((x:Int)+1))=tI (i:Int)/\some (a9C k n op nm ks)=some (a9C k n op nm ks)/\Heap.mk PT.nil 0=Heap.mk PT.nil 0/\Nat.le i ks.length/\ks.length-i<ks.length-x)) (aM (k==1) (aM ((ks.length:Int)==0) (aM (nm==[]) (Q (.bool (op==0)) h) (Q lQ h)) (Q lQ h)) (aM (k==2) (aM ((ks.length:Int)==0) (aM (n==0) (aM (op==0) (List.Mem nm nH/\Q (IV.bool true) h) (Q lQ h)) (Q lQ h)) (Q lQ h)) (aM (k==3) (aM ((ks.length:Int)==1) (aM (n==0) (aM (op==0) (List.Mem nm nH/\Q (.bool true) h) (Q lQ h)) (Q lQ h)) (Q lQ h)) (aM (k==4) (aM (n==0) (aM (nm==[]) (aM ((ks.length:Int)==2) (aM (decide (4<=op/\op<=18)) (Q (.bool true) h) (d7I op ks h Q)) (d7I op ks h Q)) (Q lQ h)) (Q lQ h)) (aM (k==5) (aM ((ks.length:Int)==3) (aM (n==0) (aM (nm==[]) (Q (.bool (op==0)) h) (Q lQ h)) (Q lQ h)) (Q lQ h)) (Q lQ h)))))))):=by kernel_rfl
theorem g6J: ∀d xs h Q,d7H d xs h Q->aU env 200 xs h Q:=by
 intro d
 induction d with
 |zero=>
  intro xs h Q g;unfold d7H at g;split at g
  ·rename_i k n nm op m c;obtain⟨ks,f,⟨rfl,rfl⟩,⟨hd,y⟩,g⟩:=g;omega
  ·exact g.elim
 |succ dd ih=>
  intro xs h Q g;unfold d7H at g;split at g
  ·rename_i k n nm op m c;obtain⟨ks,f,⟨rfl,rfl⟩,⟨hd,y⟩,g⟩:=g;refine aS (aI ih (e9P)) (g6I dd k n nm op ks h Q) ?_;delta a9C lQ b6N d7I tI wW iI;have h3:=(EW.of y).1;refine aA (by simp only [aN,bL,bG,bW,bP,cI,h1L]) ⟨⟨0,rfl,rfl,rfl,rfl,h1N _,trivial⟩,?_⟩;rintro i _ L;refine dW (fun c=>?_) (fun c=>?_)
   ·have l:i<ks.length:=by omega
    refine aP (by omega) (b0Y l (by rw [h0Z]) fun O T D K q e=>?_);have h1:=Es.dp_mem (h1B l);have h2:ks[i].dp=Es.dp q:=by rw [e];rfl
    have z:=Es.wf_mem y.2 (h1B l);rw [e]at z;exact⟨q,f,⟨rfl,rfl⟩,⟨by omega,z⟩,i+1,rfl,(by(try dsimp only);rw [h0X _ (by omega)];rfl),rfl,rfl,l,by omega⟩
   have A:a6Y f k n nm op ks.length:=y.1;unfold a6Y at A;rcases A with⟨rfl,rfl,rfl,j,_⟩| ⟨rfl,rfl,rfl,j,p⟩| ⟨rfl,rfl,rfl,j,p⟩| ⟨rfl,rfl,rfl,⟨j,u,r⟩| ⟨j,u,r⟩⟩| ⟨rfl,rfl,rfl,rfl,j⟩
   ·exact bt rfl (bt (by rw [j];rfl) (bt rfl g))
   ·exact bf rfl (bt rfl (bt (by rw [j];rfl) (bt rfl (bt rfl ⟨c6F p,g⟩))))
   ·exact bf rfl (bf rfl (bt rfl (bt (by rw [j];rfl) (bt rfl (bt rfl ⟨d4V p,g⟩)))))
   ·exact bf rfl (bf rfl (bf rfl (bt rfl (bt rfl (bt rfl (bt (by rw [j];rfl) (bt (decide_eq_true ⟨u,r⟩) g)))))))
   ·refine bf rfl (bf rfl (bf rfl (bt rfl (bt rfl (bt rfl (bf (by rw [j];rfl) (bt (by rw [j];rfl) ?_)))))));have G:op=20\/op=21:=by omega
    rcases G with rfl|rfl
    ·exact bt rfl g
    ·exact bf rfl g
   ·exact bf rfl (bf rfl (bf rfl (bf rfl (bt rfl (bt (by rw [j];rfl) (bt rfl (bt rfl g)))))))
  ·exact g.elim
def f4R:=bB 200 (fun xs h K=> ∃d,d7H d xs h K) f4P
theorem e9Q:aT env f4R:=aI (fun xs h Q g=>g.elim fun d g=>g6J d xs h Q g) (e9P)
def f4S(xs:List IV)(h:Heap)(K:KT):Prop:=match xs with
 | [.agg [.int .i64 k,.str nm,.str to,.int .i64 n,.int .i64 ak,.int .i64 an,.str anm,.int .i64 aop,.vslice none 0 am 5 ac,.int .i64 vk,.int .i64 vn,.str vnm,.int .i64 vop,.vslice none 0 vm 5 vc,.vslice none 0 m 5 c,.vslice none 0 mt 17 ct,.vslice none 0 ml 17 cl]]=>((nm=[]/\to=[]/\n=0)/\(ak=0/\an=0/\anm=[]/\aop=0/\am=0/\ac=[])/\(m=0/\c=[])/\aN vc=true/\aN ct=true/\aN cl=true)/\K (.bool true) h
 |_=>False
theorem g6K(k n:Int)(nm r:List UInt8)(y z:Int)(g:List UInt8)(i:Int)(u:Nat)(p:List IV)(V G:Int)(l:List UInt8)(j:Int)(L:Nat)(A:List IV)(m:Nat)(c:List IV)(K:Nat)(T:List IV)(D:Nat)(O:List IV)(h:Heap)(Q:KT):dF (aV f4R) env 231 dV bT bT [.agg [.int .i64 k,.str nm,.str r,.int .i64 n,.int .i64 y,.int .i64 z,.str g,.int .i64 i,.vslice none 0 u 5 p,.int .i64 V,.int .i64 G,.str l,.int .i64 j,.vslice none 0 L 5 A,.vslice none 0 m 5 c,.vslice none 0 K 17 T,.vslice none 0 D 17 O]] h Q=(
 aC (aN [IV.agg [iI k,IV.str nm,IV.str r,iI n,iI y,iI z,IV.str g,iI i,IV.vslice none 0 u 5 p,iI V,iI G,IV.str l,iI j,IV.vslice none 0 L 5 A,IV.vslice none 0 m 5 c,IV.vslice none 0 K 17 T,IV.vslice none 0 D 17 O]]) (aM (nm==[]) (aM (r==[]) (aM (n==0) ((y=0/\z=0/\g=[]/\i=0/\u=0/\p=[])/\Q (.bool ((m:Int)==0)) h) (Q (.bool false) h)) (Q (.bool false) h)) (Q (.bool false) h))):=by kernel_rfl
theorem g6L: ∀xs h Q,f4S xs h Q->aU env 231 xs h Q:=by
 intro xs h Q g;unfold f4S at g;split at g
 ·rename_i k nm A n V Y p l y r z vn i j K u m c G O T L;refine aS (e9Q) (g6K k n nm A V Y p l y r z vn i j K u m c G O T L h Q) ?_;delta iI;obtain⟨⟨⟨rfl,rfl,rfl⟩,⟨rfl,rfl,rfl,rfl,rfl,rfl⟩,⟨rfl,rfl⟩,X,D,Z⟩,g⟩:=g;exact aA (by simp only [aN,bL,X,D,Z,h1L]) (bt rfl (bt rfl (bt rfl ⟨⟨rfl,rfl,rfl,rfl,rfl,rfl⟩,g⟩)))
 ·exact g.elim
def f4T:=bB 231 f4S f4R
theorem e9R:aT env f4T:=aI g6L (e9Q)
def f4U(xs:List IV)(h:Heap)(K:KT):Prop:=match xs with
 | [.agg [.int .i64 k,.str nm,.str to,.int .i64 n,.int .i64 ak,.int .i64 an,.str anm,.int .i64 aop,.vslice none 0 am 5 ac,.int .i64 vk,.int .i64 vn,.str vnm,.int .i64 vop,.vslice none 0 vm 5 vc,.vslice none 0 m 5 c,.vslice none 0 mt 17 ct,.vslice none 0 ml 17 cl]]=> ∃(i j g:List E)(l p:List S)(f:Int),(am=i.length/\ac=aW i/\vm=j.length/\vc=aW j/\m=g.length/\c=aW g/\mt=l.length/\ct=aX l/\ml=p.length/\cl=aX p)/\(lC f k nm to n (.mk ak an anm aop i) (.mk vk vn vnm vop j) g l p/\(E.dp (.mk ak an anm aop i)<=5/\E.dp (.mk vk vn vnm vop j)<=5/\∀x∈g,x.dp<=5))/\K (.bool true) h
 |_=>False
def c7F(k n A D r z y p:Int)(nm G l m:List UInt8)(j g i:List E)(K u:List S)(h:Heap)(Q:KT):=aM ((K.length:Int)==0) (aM (k==1) (aM ((u.length:Int)==0) (List.Mem nm nH/\aM (G==[]) (aM (n==0) ((A=0/\D=0/\l=[]/\r=0/\j.length=0/\aW j=[])/\aM ((i.length:Int)==0) (∃(d:Nat),∃(ks:List E),∃(f:Int),(g.length=ks.length/\aW
 g=aW ks)/\(Es.dp ks<d/\E.wf f (E.mk z y m p ks))/\Q (.bool true) h) (Q (.bool false) h)) (Q (.bool false) h)) (Q (.bool false) h)) (Q (.bool false) h)) (aM (k==2) (aM ((u.length:Int)==0) (List.Mem nm nH/\aM (G==[]) (aM (n==0) (∃(d:Nat),∃(ks:List E),∃(f:Int),
 (j.length=ks.length/\aW j=aW ks)/\(Es.dp ks<d/\E.wf f (E.mk A D l r ks))/\aM ((i.length:Int)==0) (∃(d:Nat),∃(ks:List E),∃(f:Int),(g.length=ks.length/\aW g=aW ks)/\(Es.dp ks<d/\E.wf f (E.mk z y m p ks))/\Q (.bool true) h) (Q (.bool false)
 h)) (Q (.bool false) h)) (Q (.bool false) h)) (Q (.bool false) h)) (aM (k==3) (((nm=[]/\G=[]/\n=0)/\(A=0/\D=0/\l=[]/\r=0/\j.length=0/\aW j=[])/\(i.length=0/\aW i=[])/\aN (aW g)=true/\aN (aX K)=true/\aN (aX u)=true)/\∃ (d
 :Nat),∃(ks:List E),∃(f:Int),(g.length=ks.length/\aW g=aW ks)/\(Es.dp ks<d/\E.wf f (E.mk z y m p ks))/\Q (.bool true) h) (aM (k==4) (((nm=[]/\G=[]/\n=0)/\(A=0/\D=0/\l=[]/\r=0/\j.length=0/\aW j=[])/\(i.length=0/\aW i=
 [])/\aN (aW g)=true/\aN (aX K)=true/\aN (aX u)=true)/\∃(d:Nat),∃(ks:List E),∃(f:Int),(g.length=ks.length/\aW g=aW ks)/\(Es.dp ks<d/\E.wf f (E.mk z y m p ks))/\Q (.bool ((u.length:Int)==0)) h) (aM (k==5) (aM ((u.length:Int)==0)
 (((nm=[]/\G=[]/\n=0)/\(A=0/\D=0/\l=[]/\r=0/\j.length=0/\aW j=[])/\(i.length=0/\aW i=[])/\aN (aW g)=true/\aN (aX K)=true/\aN (aX u)=true)/\∃(d:Nat),∃(ks:List E),∃(f:Int),(g.length=ks.length/\aW g=aW ks)
 /\(Es.dp ks<d/\E.wf f (E.mk z y m p ks))/\Q (.bool true) h) (Q (.bool false) h)) (aM (k==6) (aM ((u.length:Int)==0) (List.Mem nm nH/\List.Mem G nH/\aM (n==0) ((A=0/\D=0/\l=[]/\r=0/\j.length=0/\aW j=[])/\(z=0/\y=0/\m=[]/\p=0/\
 g.length=0/\aW g=[])/\Q (.bool true) h) (Q (.bool false) h)) (Q (.bool false) h)) (aM (k==7) (aM ((u.length:Int)==0) (aM (nm==[]) (aM (G==[]) (aM (decide (n>=0)) (aM (decide (n<=1000000)) ((A=0/\D=0/\l=[]/\r=0/\j.length=0/\aW j=[])/\(z=0
 /\y=0/\m=[]/\p=0/\g.length=0/\aW g=[])/\Q (.bool ((i.length:Int)==0)) h) (Q (.bool false) h)) (Q (.bool false) h)) (Q (.bool false) h)) (Q (.bool false) h)) (Q (.bool false) h)) (Q (.bool false) h)))))))) (aM (k==1) (Q (.bool false) h) (aM (k==2) (Q (.bool false)
 h) (aM (k==3) (((nm=[]/\G=[]/\n=0)/\(A=0/\D=0/\l=[]/\r=0/\j.length=0/\aW j=[])/\(i.length=0/\aW i=[])/\aN (aW g)=true/\aN (aX K)=true/\aN (aX u)=true)/\∃(d:Nat),∃(ks:List E),∃(f:Int),(g.length=ks.length/\
 aW g=aW ks)/\(Es.dp ks<d/\E.wf f (E.mk z y m p ks))/\Q (.bool true) h) (aM (k==4) (((nm=[]/\G=[]/\n=0)/\(A=0/\D=0/\l=[]/\r=0/\j.length=0/\aW j=[])/\(i.length=0/\aW i=[])/\aN (aW g)=true/\aN (aX K)=true/\aN (aX
 u)=true)/\∃(d:Nat),∃(ks:List E),∃(f:Int),(g.length=ks.length/\aW g=aW ks)/\(Es.dp ks<d/\E.wf f (E.mk z y m p ks))/\Q (.bool ((u.length:Int)==0)) h) (aM (k==5) (Q (.bool false) h) (aM (k==6) (Q (.bool false) h) (aM (k==7) (Q (.bool false) h) (Q (.bool
 false) h))))))))
theorem g6M(k:Int)(nm A:List UInt8)(n:Int)(D G:Int)(r:List UInt8)(p:Int)(j:List E)(z K:Int)(l:List UInt8)(m:Int)(i:List E)(g:List E)(u y:List S)(h:Heap)(Q:KT):dF (aV f4T) env 219 (fun k=>if k=3 then 3 else 0) bT bT [.agg [.int .i64 k,.str nm,.str A,.int .i64 n,.int .i64 D,.int .i64 G,.str r,.int .i64 p,.vslice none 0 j.length 5 (aW j),.int .i64 z,.int .i64 K,.str l,.int .i64 m,.vslice none 0 i.length 5 (aW i),.vslice none 0 g.length 5 (aW g),.vslice none 0 u.length 17 (aX u),.vslice none 0 y.length 17 (aX y)]] h Q=(
 aC (aN [IV.agg [.int .i64 k,IV.str nm,IV.str A,iI n,iI D,iI G,IV.str r,iI p,IV.vslice none 0 j.length 5 (aW j),iI z,iI K,IV.str l,iI m,IV.vslice none 0 i.length 5 (aW i),IV.vslice none 0 g.length 5 (aW g),IV.vslice none 0 u.length 17 (aX u),IV.vslice none 0 y.length 17 (aX y)]]) (aM (decide (0< ((g.length):Int))) (aC (true&&decide (0< (g.length:Int))) (aK .i64 (aW g) 0 fun n0=>aK .i64 (aW g) 1 fun n1=>bZ (aW g) 2 fun(s2:List UInt8)=>aK .i64 (aW g) 3 fun n3=>bH 5 (aW g) 4 fun(i4:Option Nat)(e5 l6:Nat)(c7:List IV)=> ∃(d:Nat),∃(ks:List E),∃(f:Int),(l6=ks.length/\c7=aW ks)/\(Es.dp ks<d/\E.wf f (E.mk n0 n1 s2 n3 ks))/\aM (decide (1< (g.length:Int))) (aC (true&&decide ((1:Int)< (g.length:Int))) (aK .i64 (aW g) 5 fun n8=>aK .i64 (aW g) 6 fun n9=>bZ (aW g) 7 fun(a0:List UInt8)=>aK .i64 (aW g) 8 fun a1=>bH 5 (aW g) 9 fun(a6:Option Nat)(a5 X:Nat)(T:List IV)=> ∃(d:Nat),∃(ks:List E),∃(f:Int),(X=ks.length/\T=aW ks)/\(Es.dp ks<d/\E.wf f (E.mk n8 n9 a0 a1 ks))/\aM (decide (2< (g.length:Int))) (aC (true&&decide (2< (g.length:Int))) (aK .i64 (aW g) 10 fun a2=>aK .i64 (aW g) 11 fun Y=>bZ (aW g) 12 fun(L:List UInt8)=>aK .i64 (aW g) 13 fun V=>bH 5 (aW g) 14 fun(a3:Option Nat)(a4 Z:Nat)(O:List IV)=> ∃(d:Nat),∃(ks:List E),∃(f:Int),(Z=ks.length/\O=aW ks)/\(Es.dp ks<d/\E.wf f (E.mk a2 Y L V ks))/\False)) (c7F k n D G p z K m nm A r l j i g u y h Q))) (c7F k n D G p z K m nm A r l j i g u y h Q))) (c7F k n D G p z K m nm A r l j i g u y h Q))):=by kernel_rfl
theorem g6N: ∀xs h Q,f4U xs h Q->aU env 219 xs h Q:=by
 intro xs h Q l;unfold f4U at l;split at l
 ·rename_i k nm to n ak an T O am ac vk vn G L vm vc m c mt ct ml cl;obtain⟨z,g,y,th,el,f,⟨rfl,rfl,rfl,rfl,rfl,rfl,rfl,rfl,rfl,rfl⟩,⟨Y,he⟩,l⟩:=l;refine aS (e9R) (g6M k nm to n ak an T O z vk vn G L g y th el h Q) ?_;delta c7F iI;obtain⟨da,dv,dr⟩:=he;have a3:Es.dp z<=5:=da;have a4:Es.dp g<=5:=dv;refine aA (by simp only [aN,bL,bG,bW,bP,cI,h1L]) ?_;unfold lC at Y;rcases Y with⟨rfl,p,rfl,rfl,r,j,rfl,rfl,rfl⟩| ⟨rfl,p,rfl,rfl,r,j,rfl,rfl,rfl⟩| ⟨rfl,rfl,rfl,rfl,r,j,rfl⟩| ⟨rfl,rfl,rfl,rfl,r,j,rfl,rfl⟩| ⟨rfl,rfl,rfl,rfl,r,j,rfl,rfl,rfl⟩| ⟨rfl,p,D,rfl,r,j,u,rfl,rfl⟩| ⟨rfl,rfl,rfl,⟨a7,a6⟩,r,j,rfl,rfl,rfl⟩
  ·obtain⟨rfl,rfl,rfl,rfl,rfl⟩:=E.mk.inj (r:E.mk _ _ _ _ _=E.mk 0 0 [] 0 []);exact nG (by decide) (bt rfl (bt rfl (bt rfl ⟨c6F p,bt rfl (bt rfl ⟨⟨rfl,rfl,rfl,rfl,rfl,rfl⟩,bt rfl ⟨1000,g,f,⟨rfl,rfl⟩,⟨by omega,j⟩,l⟩⟩)⟩)))
  ·exact nG (by decide) (bt rfl (bf rfl (bt rfl (bt rfl ⟨d4V p,bt rfl (bt rfl ⟨1000,z,f,⟨rfl,rfl⟩,⟨by omega,r⟩,bt rfl ⟨1000,g,f,⟨rfl,rfl⟩,⟨by omega,j⟩,l⟩⟩)⟩))))
  ·obtain⟨rfl,rfl,rfl,rfl,rfl⟩:=E.mk.inj (r:E.mk _ _ _ _ _=E.mk 0 0 [] 0 []);exact nG (by decide) (bx (bf rfl (bf rfl (bt rfl ⟨⟨⟨rfl,rfl,rfl⟩,⟨rfl,rfl,rfl,rfl,rfl,rfl⟩,⟨rfl,rfl⟩,bW _,bP _,bP _⟩,1000,g,f,⟨rfl,rfl⟩,⟨by omega,j⟩,l⟩))) (bf rfl (bf rfl (bt rfl ⟨⟨⟨rfl,rfl,rfl⟩,⟨rfl,rfl,rfl,rfl,rfl,rfl⟩,⟨rfl,rfl⟩,bW _,bP _,bP _⟩,1000,g,f,⟨rfl,rfl⟩,⟨by omega,j⟩,l⟩))))
  ·obtain⟨rfl,rfl,rfl,rfl,rfl⟩:=E.mk.inj (r:E.mk _ _ _ _ _=E.mk 0 0 [] 0 []);exact nG (by decide) (bx (bf rfl (bf rfl (bf rfl (bt rfl ⟨⟨⟨rfl,rfl,rfl⟩,⟨rfl,rfl,rfl,rfl,rfl,rfl⟩,⟨rfl,rfl⟩,bW _,bP _,bP _⟩,1000,g,f,⟨rfl,rfl⟩,⟨by omega,j⟩,l⟩)))) (bf rfl (bf rfl (bf rfl (bt rfl ⟨⟨⟨rfl,rfl,rfl⟩,⟨rfl,rfl,rfl,rfl,rfl,rfl⟩,⟨rfl,rfl⟩,bW _,bP _,bP _⟩,1000,g,f,⟨rfl,rfl⟩,⟨by omega,j⟩,l⟩)))))
  ·obtain⟨rfl,rfl,rfl,rfl,rfl⟩:=E.mk.inj (r:E.mk _ _ _ _ _=E.mk 0 0 [] 0 []);exact nG (by decide) (bt rfl (bf rfl (bf rfl (bf rfl (bf rfl (bt rfl (bt rfl ⟨⟨⟨rfl,rfl,rfl⟩,⟨rfl,rfl,rfl,rfl,rfl,rfl⟩,⟨rfl,rfl⟩,bW _,bP _,bP _⟩,1000,g,f,⟨rfl,rfl⟩,⟨by omega,j⟩,l⟩)))))))
  ·obtain⟨rfl,rfl,rfl,rfl,rfl⟩:=E.mk.inj (r:E.mk _ _ _ _ _=E.mk 0 0 [] 0 []);obtain⟨rfl,rfl,rfl,rfl,rfl⟩:=E.mk.inj (j:E.mk _ _ _ _ _=E.mk 0 0 [] 0 []);have K:0<y.length:=by omega
   refine brT (by omega) (aA (by rw [h2G,decide_eq_true_eq];omega) (b0Y (i:=0) K rfl fun k2 n2 a1 a8 q e2=>?_));have V:=Es.wf_mem u (h1B K);have Z:=dr _ (h1B K);rw [e2]at V Z;have a2:Es.dp q<=5:=Z;refine⟨1000,q,f,⟨rfl,rfl⟩,⟨by omega,V⟩,?_⟩;rcases D with⟨rfl,hl⟩| ⟨rfl,hl⟩
   ·have A:1<y.length:=by omega
    refine brT (by omega) (aA (by rw [h2G,decide_eq_true_eq];omega) (b0Y (i:=1) A rfl fun k3 n3 a0 a5 q3 e3=>?_));have X:=Es.wf_mem u (h1B A);have d5:=dr _ (h1B A);rw [e3]at X d5;have a9:Es.dp q3<=5:=d5;exact⟨1000,q3,f,⟨rfl,rfl⟩,⟨by omega,X⟩,nG (by omega) (bt rfl (bf rfl (bf rfl (bf rfl (bf rfl (bf rfl (bt rfl (bt rfl ⟨c6F p,(by first|decide|exact fG (by decide)),bt rfl ⟨⟨rfl,rfl,rfl,rfl,rfl,rfl⟩,⟨rfl,rfl,rfl,rfl,rfl,rfl⟩,l⟩⟩))))))))⟩
   ·exact nG (by omega) (bt rfl (bf rfl (bf rfl (bf rfl (bf rfl (bf rfl (bt rfl (bt rfl ⟨c6F p,(by first|decide|exact fG (by decide)),bt rfl ⟨⟨rfl,rfl,rfl,rfl,rfl,rfl⟩,⟨rfl,rfl,rfl,rfl,rfl,rfl⟩,l⟩⟩))))))))
  ·obtain⟨rfl,rfl,rfl,rfl,rfl⟩:=E.mk.inj (r:E.mk _ _ _ _ _=E.mk 0 0 [] 0 []);obtain⟨rfl,rfl,rfl,rfl,rfl⟩:=E.mk.inj (j:E.mk _ _ _ _ _=E.mk 0 0 [] 0 []);exact nG (by decide) (bt rfl (bf rfl (bf rfl (bf rfl (bf rfl (bf rfl (bf rfl (bt rfl (bt rfl (bt rfl (bt rfl (brT (by omega) (brT (by omega) ⟨⟨rfl,rfl,rfl,rfl,rfl,rfl⟩,⟨rfl,rfl,rfl,rfl,rfl,rfl⟩,l⟩)))))))))))))
 ·exact l.elim
def f4V:=bB 219 f4U f4T
theorem e9S:aT env f4V:=aI g6N (e9R)
def d7J(d:Nat)(xs:List IV)(h:Heap)(K:KT):Prop:=match xs with
 | [.vslice none 0 m 17 c]=> ∃(l:List S)(f:Int),(m=l.length/\c=aX l)/\(Ss.cnt l<d/\Ss.cnt l<=1000/\Ss.wf f l/\Ss.ed 5 l)/\K (.bool true) h
 |_=>False
def b6O(l:List S):=TV.v (.vslice none 0 l.length 17 (aX l))
theorem g6O(dd:Nat)(l:List S)(h:Heap)(Q:KT):dF (aV (bB 199 (d7J dd) f4V)) env 199 dV (tK 3 (e9N l)) bT [.vslice none 0 l.length 17 (aX l)] h Q=(
 aC (aN [IV.vslice none 0 l.length 17 (aX l)]) ((∃(x:Nat),some (b6O l)=some (b6O l)/\tI 0=tI (x:Int)/\Heap.mk PT.nil 0=Heap.mk PT.nil 0/\Nat.le x l.length/\True)/\∀(x:Nat)(b:FF),x<=l.length->aM (decide ((x:Int)< (l.length:Int))) (aC (decide (0<=(x:Int)) &&decide ((x:Int)< (l.length:Int))) (aK .i64 (aX l) ((x:Int).toNat*17) fun n0=>bZ (aX l) ((x:Int).toNat*(17:Nat)+1) fun(s1:List UInt8)=>bZ (aX l) ((x:Int).toNat*17+1+1) fun(s2:List UInt8)=>aK .i64 (aX l) ((x:Int).toNat*17+1+1+1) fun n3=>aK .i64 (aX l) ((x:Int).toNat*17+1+1+1+1) fun n4=>aK .i64 (aX l) ((x:Int).toNat*17+1+1+1+1+1) fun n5=>bZ (aX l) ((x:Int).toNat*17+1+1+(1:Nat)+1+1+1) fun(s6:List UInt8)=>aK .i64 (aX l) ((x:Int).toNat*17+1+1+1+1+1+1+1) fun n7=>bH 5 (aX l) ((x:Int).toNat*17+1+(1:Nat)+1+1+1+1+1+1) fun(i8:Option Nat)(e9 a0:Nat)(Z:List IV)=>aK .i64 (aX l) ((x:Int).toNat*17+1+1+1+1+1+1+1+1+(1:Nat)) fun A=>aK .i64 (aX l) ((x:Int).toNat*17+1+1+1+1+1+1+1+1+1+1) fun u=>bZ (aX l) ((x:Int).toNat*17+1+1+(1:Nat)+1+1+1+1+1+1+1+1) fun(z:List UInt8)=>aK .i64 (aX l) ((x:Int).toNat*17+1+1+1+1+1+1+1+1+1+(1:Nat)+1+1) fun y=>bH 5 (aX l) ((x:Int).toNat*17+1+1+1+1+1+1+1+1+1+1+1+1+1) fun(b0:Option Nat)(b1 a4:Nat)(a1:List IV)=>bH 5 (aX l) ((x:Int).toNat*17+1+1+1+1+1+1+1+1+1+1+1+1+1+1) fun(a8:Option Nat)(a9 a3:Nat)(T:List IV)=>bH 17 (aX l) ((x:Int).toNat*17+1+1+1+1+1+1+1+1+1+1+1+1+1+1+1) fun(a5:Option Nat)(b4 Y:Nat)(D:List IV)=>bH 17 (aX l) ((x:Int).toNat*17+1+1+1+1+1+1+1+1+1+1+1+1+1+1+1+1) fun(b6:Option Nat)(a6 a2:Nat)(K:List IV)=> ∃(p m g:List E),∃(G:List M10.S),∃(el:List M10.S),∃(f:Int),(a0=p.length/\Z=aW p/\a4=m.length/\a1=aW m/\a3=g.length/\T=aW g/\Y=G.length/\D=aX G/\a2=el.length/\K=aX el)/\(lC f n0 s1 s2 n3 (E.mk n4 n5 s6 n7 p) (E.mk A u z y m) g G el/\E.dp (E.mk n4 n5 s6 n7 p)<=5/\E.dp (E.mk A u z y m)<=5/\∀(x:E),x∈g->E.dp x<=5)/\aC (decide (0<=(x:Int)) &&decide ((x:Int)< ((l.length):Int))) (bH 17 (aX l) ((x:Int).toNat*17+15) fun(b5:Option Nat)(b2 X:Nat)(L:List IV)=> ∃(j:List M10.S),∃(f:Int),(X=j.length/\L=aX j)/\(Ss.cnt j<dd/\Ss.cnt j<=1000/\Ss.wf f j/\Ss.ed 5 j)/\aC (decide (0<=(x:Int)) &&decide ((x:Int)< (l.length:Int))) (bH 17 (aX l) ((x:Int).toNat*17+16) fun(a7:Option Nat)(b3 O:Nat)(V:List IV)=> ∃(i:List M10.S),∃(f:Int),(O=i.length/\V=aX i)/\(Ss.cnt i<dd/\Ss.cnt i<=1000/\Ss.wf f i/\Ss.ed 5 i)/\∃(r:Nat),some (b6O l)=some (b6O l)/\tI (wW ((x:Int)+1))=tI (r:Int)/\Heap.mk PT.nil 0=Heap.mk PT.nil 0/\Nat.le r l.length/\l.length-r<l.length-x)))) (Q (.bool true) h))):=by kernel_rfl
theorem g6P: ∀d xs h Q,d7J d xs h Q->aU env 199 xs h Q:=by
 intro d
 induction d with
 |zero=>
  intro xs h Q j;unfold d7J at j;split at j
  ·rename_i m c;obtain⟨l,f,⟨rfl,rfl⟩,⟨hd,Y,V,X⟩,j⟩:=j;omega
  ·exact j.elim
 |succ dd ih=>
  intro xs h Q j;unfold d7J at j;split at j
  ·rename_i m c;obtain⟨l,f,⟨rfl,rfl⟩,⟨hd,Y,V,X⟩,j⟩:=j;refine aS (aI ih (e9S)) (g6O dd l h Q) ?_;delta b6O tI wW;have lc:=Ss.len_cnt l;refine aA (by simp only [aN,bL,bG,bW,bP,cI,h1L]) ⟨⟨0,rfl,rfl,rfl,h1N _,trivial⟩,?_⟩;rintro i _ hi;refine dW (fun c=>?_) (fun c=>j);have g:i<l.length:=by omega
   refine aP (by omega) (e5U g (by rw [h0Z]) fun k nm to n ak an a3 a2 O vk vn a0 a1 A r y z e=>?_);have h1:=Ss.cnt_mem (h1B g);have e1:l[i].cnt=1+Ss.cnt y+Ss.cnt z:=by rw [e];rfl
   have p:=Ss.wf_mem V (h1B g);have u:=Ss.ed_mem X (h1B g);rw [e]at p u;obtain⟨Z,D,K⟩:=p;obtain⟨T,G,L⟩:=u;exact⟨O,A,r,y,z,f,⟨rfl,rfl,rfl,rfl,rfl,rfl,rfl,rfl,rfl,rfl⟩,⟨Z,T⟩,aP (by omega) (a8N g e (by rw [h0Z]) ⟨y,f,⟨rfl,rfl⟩,⟨by omega,by omega,D,G⟩,aP (by omega) (a8O g e (by rw [h0Z]) ⟨z,f,⟨rfl,rfl⟩,⟨by omega,by omega,K,L⟩,i+1,rfl,(by(try dsimp only);rw [h0X _ (by omega)];rfl),rfl,g,by omega⟩)⟩)⟩
  ·exact j.elim
def f4W:=bB 199 (fun xs h K=> ∃d,d7J d xs h K) f4V
theorem e9T:aT env f4W:=aI (fun xs h Q g=>g.elim fun d g=>g6P d xs h Q g) (e9S)
def f4X(xs:List IV)(h:Heap)(K:KT):Prop:=match xs with
 | [.agg [.vslice none 0 2 2 ac,.vslice none 0 2 9 fc]]=>qG ac fc/\K (.bool true) h
 |_=>False
theorem g6Q(G K:Int)(u:List S)(D un:Int)(m:List UInt8)(p:Int)(i:List E)(y:List S)(A z:Int)(j:List UInt8)(r:Int)(g:List E)(h:Heap)(Q:KT):dF (aV f4W) env 143 (fun k=>if k=3 then 3 else if k=8 then 3 else if k=13 then 6 else 0) bT bT [.agg [.vslice none 0 2 2 [.str [97],.int .i64 G,.str [98],.int .i64 K],.vslice none 0 2 9 [.str [102],.vslice none 1 2 1 [.str [120],.str [121]],.vslice none 1 2 1 [.str [105],.str [106]],.vslice none 0 u.length 17 (aX u),.int .i64 D,.int .i64 un,.str m,.int .i64 p,.vslice none 0 i.length 5 (aW i),.str [103],.vslice none 1 1 1 [.str [110]],.vslice none 1 1 1 [.str [105]],.vslice none 0 y.length 17 (aX y),.int .i64 A,.int .i64 z,.str j,.int .i64 r,.vslice none 0 g.length 5 (aW g)]]] h Q=(
 aC (aN [IV.agg [.vslice none 0 2 2 [IV.str [97],iI G,IV.str [98],iI K],IV.vslice none 0 2 9 [IV.str [102],IV.vslice none 1 2 1 [IV.str [120],IV.str [121]],IV.vslice none 1 2 1 [IV.str [105],IV.str [106]],IV.vslice none 0 u.length 17 (aX u),iI D,iI un,IV.str m,iI p,IV.vslice none 0 (i.length) 5 (aW i),IV.str [103],IV.vslice none 1 1 1 [IV.str [110]],IV.vslice none 1 1 1 [IV.str [105]],IV.vslice none 0 y.length 17 (aX y),iI A,iI z,IV.str j,iI r,IV.vslice none 0 g.length 5 (aW g)]]]) (List.Mem [97] nH/\List.Mem [98] nH/\List.Mem [102] nH/\List.Mem [120] nH/\List.Mem [121] nH/\List.Mem [105] nH/\List.Mem [106] nH/\∃(d:Nat),∃(l:List M10.S),∃(f:Int),(u.length=l.length/\aX u=aX l)/\(Ss.cnt l<d/\Ss.cnt l<=1000/\Ss.wf f l/\Ss.ed 5 l)/\∃(d:Nat),∃(ks:List E),∃(f:Int),(i.length=ks.length/\aW i=aW ks)/\(Es.dp ks<d/\E.wf f (E.mk D un m p ks))/\List.Mem [103] nH/\List.Mem [110] nH/\List.Mem [105] nH/\∃(d:Nat),∃(l:List M10.S),∃(f:Int),(y.length=l.length/\aX y=aX l)/\(Ss.cnt l<d/\Ss.cnt l<=1000/\Ss.wf f l/\Ss.ed 5 l)/\∃(d:Nat),∃(ks:List E),∃(f:Int),(g.length=ks.length/\aW g=aW ks)/\(Es.dp ks<d/\E.wf f (E.mk A z j r ks))/\Q (.bool true) h)):=by kernel_rfl
theorem g6R: ∀xs h Q,f4X xs h Q->aU env 143 xs h Q:=by
 intro xs h Q j;unfold f4X at j;split at j
 ·rename_i X V;obtain⟨⟨D,G,z,⟨L,un,p,u,i⟩,A,⟨T,K,r,y,g⟩,O,rfl,rfl⟩,j⟩:=j;refine aS (e9T) (g6Q D G z L un p u i A T K r y g h Q) ?_;delta tI wW iI;obtain⟨_,m,l⟩:=O;have Z:=m.cnt;have x3:Es.dp i<=5:=m.vd;have Y:=l.cnt;have y3:Es.dp g<=5:=l.vd;exact aA (by simp only [aN,bL,bG,bW,bP,cI,h1L]) ⟨(by first|decide|exact fG (by decide)),(by first|decide|exact fG (by decide)),(by first|decide|exact fG (by decide)),(by first|decide|exact fG (by decide)),(by first|decide|exact fG (by decide)),(by first|decide|exact fG (by decide)),(by first|decide|exact fG (by decide)),1000,z,0,⟨rfl,rfl⟩,⟨by omega,by omega,m.wf,m.ed⟩,1000,i,0,⟨rfl,rfl⟩,⟨by omega,m.vw⟩,(by first|decide|exact fG (by decide)),(by first|decide|exact fG (by decide)),(by first|decide|exact fG (by decide)),1000,A,1,⟨rfl,rfl⟩,⟨by omega,by omega,l.wf,l.ed⟩,1000,g,1,⟨rfl,rfl⟩,⟨by omega,l.vw⟩,j⟩
 ·exact j.elim
def f4Y:=bB 143 f4X f4W
theorem e9U:aT env f4Y:=aI g6R (e9T)
def f4Z(xs:List IV)(h:Heap)(K:KT):Prop:=match xs with
 | [.agg [.vslice none 0 2 2 ac,.vslice none 0 2 9 fc]]=>lD ac fc/\K (.bool false) h
 |_=>False
def sI:=IV.bool true
def xP:List UInt8:=[97]
def a0U:List UInt8:=[98]
abbrev d7K(l:List (List UInt8)):=(2:Nat)=l.length/\[IV.str xP,IV.str a0U]=List.map IV.str l
theorem g6S(z K:Int)(u:List S)(G un:Int)(j:List UInt8)(p:Int)(i:List E)(y:List S)(D A:Int)(m:List UInt8)(r:Int)(g:List E)(h:Heap)(Q:KT):dF (aV f4Y) env 144 (fun k=>7) bT bT [.agg [.vslice none 0 2 2 [.str [97],.int .i64 z,.str [98],.int .i64 K],.vslice none 0 2 9 [.str [102],.vslice none 1 2 1 [.str [120],.str [121]],.vslice none 1 2 1 [.str [105],.str [106]],.vslice none 0 u.length 17 (aX u),.int .i64 G,.int .i64 un,.str j,.int .i64 p,.vslice none 0 i.length 5 (aW i),.str [103],.vslice none 1 1 1 [.str [110]],.vslice none 1 1 1 [.str [105]],.vslice none 0 y.length 17 (aX y),.int .i64 D,.int .i64 A,.str m,.int .i64 r,.vslice none 0 g.length 5 (aW g)]]] h Q=(
 aC (aN [IV.agg [.vslice none 0 2 2 [IV.str xP,iI z,IV.str a0U,iI K],IV.vslice none 0 2 9 [IV.str [102],IV.vslice none 1 2 1 [IV.str [120],IV.str [121]],IV.vslice none 1 2 1 [IV.str [105],IV.str [106]],IV.vslice none 0 u.length 17 (aX u),iI G,iI un,IV.str j,iI p,IV.vslice none 0 i.length 5 (aW i),IV.str [103],IV.vslice none 1 1 1 [IV.str [110]],IV.vslice none 1 1 1 [IV.str [105]],IV.vslice none 0 y.length 17 (aX y),iI D,iI A,IV.str m,iI r,IV.vslice none 0 g.length 5 (aW g)]]]) (∃(l:List (List UInt8)),((0:Nat)=l.length/\[]=List.map IV.str l)/\l.length<=1000/\aM (decide (xP∈l)) (Q sI h) (∃(l:List (List UInt8)),((1:Nat)=l.length/\[IV.str xP]=List.map IV.str l)/\l.length<=1000/\aM (decide (a0U∈l)) (Q sI h) (∃(l:List (List UInt8)),((0:Nat)=l.length/\[]=List.map IV.str l)/\l.length<=1000/\aM (decide ([102] ∈l)) (Q sI h) (∃(l:List (List UInt8)),(d7K l)/\l.length<=(1000:Nat)/\aM (decide ([120] ∈l)) (Q sI h) (∃(l:List (List UInt8)),((3:Nat)=l.length/\[IV.str xP,IV.str a0U,IV.str [120]]=List.map IV.str l)/\l.length<=1000/\aM (decide ([121] ∈l)) (Q sI h) (∃(l:List (List UInt8)),((4:Nat)=l.length/\[IV.str xP,IV.str a0U,IV.str [120],IV.str [121]]=List.map IV.str l)/\l.length<=1000/\aM (decide ([105] ∈l)) (Q sI h) (∃(l:List (List UInt8)),((5:Nat)=l.length/\[IV.str xP,IV.str a0U,IV.str [(120:UInt8)],IV.str [121],IV.str [105]]=List.map IV.str l)/\l.length<=1000/\aM (decide ([106] ∈l)) (Q sI h) (∃(l:List (List UInt8)),((1:Nat)=l.length/\[IV.str [102]]=List.map IV.str l)/\l.length<=1000/\aM (decide ([103] ∈l)) (Q sI h) (∃(l:List (List UInt8)),(d7K l)/\l.length<=1000/\aM (decide ([110] ∈l)) (Q sI h) (∃(l:List (List UInt8)),((3:Nat)=l.length/\[IV.str xP,IV.str a0U,IV.str [110]]=List.map IV.str l)/\l.length<=(1000:Nat)/\aM (decide ([105] ∈l)) (Q sI h) (Q (.bool false) h)))))))))))):=by kernel_rfl
theorem g6T: ∀xs h Q,f4Z xs h Q->aU env 144 xs h Q:=by
 intro xs h Q g;unfold f4Z at g;split at g
 ·rename_i O L;obtain⟨⟨u,K,z,⟨G,un,l,m,r⟩,D,⟨A,y,j,p,i⟩,rfl,rfl⟩,g⟩:=g;refine aS (e9U) (g6S u K z G un l m r D A y j p i h Q) ?_;delta sI xP a0U d7K iI;exact aA (by simp only [aN,bL,bG,bW,bP,cI,h1L]) ⟨[],⟨rfl,rfl⟩,(by first|decide|exact fG (by decide)),nG ((by first|decide|exact fG (by decide))) ⟨[[97]],⟨rfl,rfl⟩,(by first|decide|exact fG (by decide)),nG ((by first|decide|exact fG (by decide))) ⟨[],⟨rfl,rfl⟩,(by first|decide|exact fG (by decide)),nG ((by first|decide|exact fG (by decide))) ⟨[[97],[98]],⟨rfl,rfl⟩,(by first|decide|exact fG (by decide)),nG ((by first|decide|exact fG (by decide))) ⟨[[97],[98],[120]],⟨rfl,rfl⟩,(by first|decide|exact fG (by decide)),nG ((by first|decide|exact fG (by decide))) ⟨[[97],[98],[120],[121]],⟨rfl,rfl⟩,(by first|decide|exact fG (by decide)),nG ((by first|decide|exact fG (by decide))) ⟨[[97],[98],[120],[121],[105]],⟨rfl,rfl⟩,(by first|decide|exact fG (by decide)),nG ((by first|decide|exact fG (by decide))) ⟨[[102]],⟨rfl,rfl⟩,(by first|decide|exact fG (by decide)),nG ((by first|decide|exact fG (by decide))) ⟨[[97],[98]],⟨rfl,rfl⟩,(by first|decide|exact fG (by decide)),nG ((by first|decide|exact fG (by decide))) ⟨[[97],[98],[110]],⟨rfl,rfl⟩,(by first|decide|exact fG (by decide)),nG ((by first|decide|exact fG (by decide))) g⟩⟩⟩⟩⟩⟩⟩⟩⟩⟩
 ·exact g.elim
def f5A:=bB 144 f4Z f4Y
theorem e9V:aT env f5A:=aI g6T (e9U)
def f5B(f:Int)(g j:List IV)(k n:Int)(nm:List UInt8)(op:Int)(ks:List E):Inv':=hJ Nat (fun i=>[(2,.l 2 0),(3,.l 3 0),(5,.v (.int .i64 (i:Int)))]) (fun _=>[(2,[.vslice none 0 (bN f).length 1 ((bN f).map IV.str),.vslice none 0 2 1 (oW.map IV.str),.vslice none 0 2 2 g,.vslice none 0 2 9 j]),(3,[.int .i64 k,.int .i64 n,.str nm,.int .i64 op,.vslice none 0 ks.length 5 (aW ks)])]) (fun _=>Heap.empty) (fun i=>i<=ks.length) (fun i=>ks.length-i)
def d7L(d:Nat)(xs:List IV)(h:Heap)(K:KT):Prop:=match xs with
 | [.agg [.vslice none 0 nv 1 cv,.vslice none 0 2 1 ca,.vslice none 0 2 2 pa,.vslice none 0 2 9 pf],.agg [.int .i64 k,.int .i64 n,.str nm,.int .i64 op,.vslice none 0 m 5 c]]=> ∃(f:Int)(ks:List E),(nv=(bN f).length/\cv=(bN f).map IV.str/\ca=oW.map IV.str)/\(m=ks.length/\c=aW ks)/\(Es.dp ks<d/\(f=0\/f=1)/\(E.wf f (.mk k n nm op ks) \/ (k=0/\ks=[]))/\aN pa=true/\aN pf=true)/\K (.bool true) h
 |_=>False
def b6P:=[IV.str [97],IV.str [98]]
def a9D(f:Int)(g i:List IV):=[IV.vslice none 0 ((bN f).length) 1 (List.map IV.str (bN f)),IV.vslice none 0 2 1 b6P,IV.vslice none 0 2 2 g,IV.vslice none 0 2 9 i]
def a9E(k n op:Int)(nm:List UInt8)(ks:List E):=[iI k,iI n,IV.str nm,iI op,IV.vslice none 0 ks.length 5 (aW ks)]
def d7M(k:Int)(nm:List UInt8)(h:Heap)(Q:KT):=aM (k !=3) (Q (.bool true) h) (∃(l:List (List UInt8)),((2:Nat)=l.length/\b6P=List.map IV.str l)/\l.length<=1000/\Q (.bool (decide (nm∈l))) h)
def b6Q:=TV.l 2 0
def b6R:=TV.l 3 0
theorem g6U(u:Nat)(f:Int)(m j:List IV)(k n:Int)(nm:List UInt8)(op:Int)(ks:List E)(h:Heap)(Q:KT):dF (aV (bB 146 (d7L u) f5A)) env 146 dV (tK 3 (f5B f m j k n nm op ks)) bT [.agg [.vslice none 0 (bN f).length 1 ((bN f).map IV.str),.vslice none 0 2 1 (oW.map IV.str),.vslice none 0 2 2 m,.vslice none 0 2 9 j],.agg [.int .i64 k,.int .i64 n,.str nm,.int .i64 op,.vslice none 0 ks.length 5 (aW ks)]] h Q=(
 aC (aN [IV.agg (a9D f m j),IV.agg (a9E k n op nm ks)]) ((∃(x:Nat),some b6Q=some b6Q/\some b6R=some b6R/\tI 0=tI (x:Int)/\some (a9D f m j)=some (a9D f m j)/\some (a9E k n op nm ks)=some (a9E k n op nm ks)/\Heap.mk PT.nil 0=Heap.mk PT.nil 0/\Nat.le x ks.length/\True)/\∀(x:Nat)(b:FF),x<=ks.length->aM (decide ((x:Int)< (ks.length:Int))) (aC (decide (0<=(x:Int)) &&decide ((x:Int)< (ks.length:Int))) (aK .i64 (aW ks) ((x:Int).toNat*5) fun r=>aK .i64 (aW ks) ((x:Int).toNat*5+1) fun G=>bZ (aW ks) ((x:Int).toNat*5+1+1) fun(A:List UInt8)=>aK .i64 (aW ks) ((x:Int).toNat*5+1+1+1) fun y=>bH 5 (aW ks) ((x:Int).toNat*5+1+1+1+1) fun(L:Option Nat)(K D:Nat)(z:List IV)=> ∃(i:Int),∃(g:List E),((bN f).length=(bN i).length/\List.map IV.str (bN f)=List.map IV.str (bN i)/\b6P=b6P)/\(D=g.length/\z=aW g)/\(Es.dp g<u/\(i=0\/i=1)/\(E.wf i (E.mk r G A y g) \/r=0/\g=[])/\aN m=true/\aN j=true)/\∃(p:Nat),some b6Q=some b6Q/\some b6R=some b6R/\tI (wW ((x:Int)+1))=tI (p:Int)/\some (a9D f m j)=some (a9D f m j)/\some (a9E k n op nm ks)=some (a9E k n op nm ks)/\Heap.mk PT.nil 0=Heap.mk PT.nil 0/\Nat.le p ks.length/\ks.length-p<ks.length-x)) (aM (k !=2) (d7M k nm h Q) (∃(l:List (List UInt8)),((bN f).length=l.length/\List.map IV.str (bN f)=List.map IV.str l)/\l.length<=1000/\aM (decide (nm∈l)) (d7M k nm h Q) (Q (.bool false) h))))):=by kernel_rfl
theorem g6V: ∀d xs h Q,d7L d xs h Q->aU env 146 xs h Q:=by
 intro d
 induction d with
 |zero=>
  intro xs h Q g;unfold d7L at g;split at g
  ·rename_i O T X z D k n nm op m c;obtain⟨f,ks,⟨rfl,rfl,rfl⟩,⟨rfl,rfl⟩,⟨hd,K,j,u,r⟩,g⟩:=g;omega
  ·exact g.elim
 |succ dd ih=>
  intro xs h Q g;unfold d7L at g;split at g
  ·rename_i O T X z D k n nm op m c;obtain⟨f,ks,⟨rfl,rfl,rfl⟩,⟨rfl,rfl⟩,⟨hd,K,j,u,r⟩,g⟩:=g;refine aS (aI ih (e9V)) (g6U dd f z D k n nm op ks h Q) ?_;delta a9D a9E d7M b6Q b6R b6P tI wW iI;have h3:ks.length<=3:=by
    rcases j with j| ⟨_,rfl⟩
    ·exact(EW.of j).1
    ·simp
   have y:Es.wf f ks:=by
    rcases j with j| ⟨_,rfl⟩
    ·exact j.2
    ·trivial
   refine aA (by simp only [aN,bL,bG,bW,bP,cI,h1L,u,r]) ⟨⟨0,rfl,rfl,rfl,rfl,rfl,rfl,h1N _,trivial⟩,?_⟩;rintro i _ Y;refine dW (fun c=>?_) (fun c=>?_)
   ·have l:i<ks.length:=by omega
    refine aP (by omega) (b0Y l (by rw [h0Z]) fun Z n2 L V q e=>?_);have h1:=Es.dp_mem (h1B l);have h2:ks[i].dp=Es.dp q:=by rw [e];rfl
    have G:=Es.wf_mem y (h1B l);rw [e]at G;exact⟨f,q,⟨rfl,rfl,rfl⟩,⟨rfl,rfl⟩,⟨by omega,K,.inl G,u,r⟩,i+1,rfl,rfl,(by(try dsimp only);rw [h0X _ (by omega)];rfl),rfl,rfl,rfl,l,by omega⟩
   rcases j with j| ⟨rfl,_⟩
   ·have A:a6Y f k n nm op ks.length:=j.1;unfold a6Y at A;rcases A with⟨rfl,_⟩| ⟨rfl,_,_,_,p⟩| ⟨rfl,_,_,_,p⟩| ⟨rfl,_⟩| ⟨rfl,_⟩
    ·exact bt rfl (bt rfl g)
    ·exact bf rfl ⟨bN f,⟨rfl,rfl⟩,xI f,brT p (bt rfl g)⟩
    ·exact bt rfl (bf rfl ⟨oW,⟨rfl,rfl⟩,(by first|decide|exact fG (by decide)),cO g (by rw [decide_eq_true p])⟩)
    ·exact bt rfl (bt rfl g)
    ·exact bt rfl (bt rfl g)
   ·exact bt rfl (bt rfl g)
  ·exact g.elim
def f5C:=bB 146 (fun xs h K=> ∃d,d7L d xs h K) f5A
theorem e9W:aT env f5C:=aI (fun xs h Q g=>g.elim fun d g=>g6V d xs h Q g) (e9V)
def f5D(xs:List IV)(h:Heap)(K:KT):Prop:=match xs with
 | [.agg [.vslice none 0 nv 1 cv,.vslice none 0 2 1 ca,.vslice none 0 2 2 pa,.vslice none 0 2 9 pf],.agg [.int .i64 k,.str nm,.str to,.int .i64 n,.int .i64 ak,.int .i64 an,.str anm,.int .i64 aop,.vslice none 0 am 5 ac,.int .i64 vk,.int .i64 vn,.str vnm,.int .i64 vop,.vslice none 0 vm 5 vc,.vslice none 0 m 5 c,.vslice none 0 mt 17 ct,.vslice none 0 ml 17 cl]]=> ∃(i j g:List E)(l p:List S)(f:Int),(am=i.length/\ac=aW i/\vm=j.length/\vc=aW j/\m=g.length/\c=aW g/\mt=l.length/\ct=aX l/\ml=p.length/\cl=aX p)/\lD pa pf/\(nv=(bN f).length/\cv=(bN f).map IV.str/\ca=oW.map IV.str)/\((f=0\/f=1)/\lC f k nm to n (.mk ak an anm aop i) (.mk vk vn vnm vop j) g l p/\(E.dp (.mk ak an anm aop i)<=5/\E.dp (.mk vk vn vnm vop j)<=5/\∀x∈g,x.dp<=5))/\K (.bool true) h
 |_=>False
def sJ:=[IV.str [97],IV.str [98]]
def c7G(f k:Int)(i j:List IV)(nm g:List UInt8)(h:Heap)(Q:KT):=aM (k==6) (∃(l:List (List UInt8)),((bN f).length=l.length/\List.map IV.str (bN f)=List.map IV.str l)/\l.length<=1000/\aM (decide (nm∈l)) (lD i j/\(g=[102] \/g=[103])/\Q (.bool (decide ((if g=[102]then(0:Int)else(1:Int))>=0))) h) (Q (.bool false) h)) (aM
 (k==2) (∃(l:List (List UInt8)),((2:Nat)=l.length/\sJ=List.map IV.str l)/\l.length<=1000/\Q (.bool (decide (nm∈l))) h) (Q (.bool true) h))
def c7H(f:Int)(nm:List UInt8)(h:Heap)(Q:KT):=(∃(l:List (List UInt8)),((bN f).length=l.length/\List.map IV.str (bN f)=List.map IV.str l)/\l.length<=1000/\Q (.bool (decide (nm∈l))) h)
abbrev c7I(f g:Int):=(bN f).length=(bN g).length/\List.map IV.str (bN f)=List.map IV.str (bN g)/\sJ=sJ
abbrev c7J(f g:Int):=(bN f).length=(bN g).length/\List.map IV.str (bN f)=List.map IV.str (bN g)/\sJ=sJ
abbrev d7N(f g:Int):=(bN f).length=(bN g).length/\List.map IV.str (bN f)=List.map IV.str (bN g)/\sJ=sJ
abbrev c7K(g ks:List E):=g.length=ks.length/\aW g=aW ks
abbrev c7L(g ks:List E):=g.length=ks.length/\aW g=aW ks
theorem g6W(f:Int)(r u:List IV)(k:Int)(nm O:List UInt8)(n:Int)(L T:Int)(G:List UInt8)(D:Int)(p:List E)(K V:Int)(y:List UInt8)(z:Int)(m:List E)(g:List E)(Y Z:List S)(h:Heap)(Q:KT):dF (aV f5C) env 203 (fun k=>if k=3 then 3 else 0) bT bT [.agg [.vslice none 0 (bN f).length 1 ((bN f).map IV.str),.vslice none 0 2 1 (oW.map IV.str),.vslice none 0 2 2 r,.vslice none 0 2 9 u],.agg [.int .i64 k,.str nm,.str O,.int .i64 n,.int .i64 L,.int .i64 T,.str G,.int .i64 D,.vslice none 0 p.length 5 (aW p),.int .i64 K,.int .i64 V,.str y,.int .i64 z,.vslice none 0 m.length 5 (aW m),.vslice none 0 g.length 5 (aW g),.vslice none 0 Y.length 17 (aX Y),.vslice none 0 Z.length 17 (aX Z)]] h Q=(
 aC (aN [IV.agg [.vslice none 0 ((bN f).length) 1 (List.map IV.str (bN f)),IV.vslice none 0 2 1 sJ,IV.vslice none 0 2 2 r,IV.vslice none 0 2 9 u],IV.agg [.int .i64 k,IV.str nm,IV.str O,iI n,iI L,iI T,IV.str G,iI D,IV.vslice none 0 p.length 5 (aW p),iI K,iI V,IV.str y,iI z,IV.vslice none 0 m.length 5 (aW m),IV.vslice none 0 g.length 5 (aW g),IV.vslice none 0 Y.length 17 (aX Y),IV.vslice none 0 Z.length 17 (aX Z)]]) (aM (decide (0< (g.length:Int))) (aC (true&&decide ((0:Int)< (g.length:Int))) (aK .i64 (aW g) 0 fun n0=>aK .i64 (aW g) 1 fun n1=>bZ (aW g) 2 fun(s2:List UInt8)=>aK .i64 (aW g) 3 fun n3=>bH 5 (aW g) 4 fun(i4:Option Nat)(e5 l6:Nat)(c7:List IV)=> ∃(d:Nat),∃(l:Int),∃(ks:List E),(d7N f l)/\(l6=ks.length/\c7=aW ks)/\(Es.dp ks<d/\(l=0\/l=1)/\(E.wf l (E.mk n0 n1 s2 n3 ks) \/n0=0/\ks=[])/\aN r=true/\aN u=true)/\aM (decide (1< (g.length:Int))) (aC (true&&decide (1< (g.length:Int))) (aK .i64 (aW g) 5 fun n8=>aK .i64 (aW g) 6 fun n9=>bZ (aW g) 7 fun(a7:List UInt8)=>aK .i64 (aW g) 8 fun a8=>bH 5 (aW g) 9 fun(b2:Option Nat)(b1 a4:Nat)(a2:List IV)=> ∃(d:Nat),∃(i:Int),∃(ks:List E),(c7I f i)/\(a4=ks.length/\a2=aW ks)/\(Es.dp ks<d/\(i=0\/i=1)/\(E.wf i (E.mk n8 n9 a7 a8 ks) \/n8=0/\ks=[])/\aN r=true/\aN u=true)/\aM (decide (2< (g.length:Int))) (aC (true&&decide (2< (g.length:Int))) (aK .i64 (aW g) 10 fun X=>aK .i64 (aW g) 11 fun(a5:Int)=>bZ (aW g) 12 fun(a0:List UInt8)=>aK .i64 (aW g) 13 fun a3=>bH 5 (aW g) 14 fun(a9:Option Nat)(b0 a6:Nat)(a1:List IV)=> ∃(d:Nat),∃(j:Int),∃(ks:List E),(c7J f j)/\(a6=ks.length/\a1=aW ks)/\(Es.dp ks<d/\(j=0\/j=1)/\(E.wf j (E.mk X a5 a0 a3 ks) \/X=0/\ks=[])/\aN r=true/\aN u=true)/\False)) (∃(d:Nat),∃(j:Int),∃(ks:List E),(c7J f j)/\(c7K p ks)/\(Es.dp ks<d/\(j=0\/j=(1:Int))/\(E.wf j (E.mk L T G D ks) \/L=0/\ks=[])/\aN r=true/\aN u=true)/\∃(d:Nat),∃(A:Int),∃(ks:List E),((bN f).length=(bN A).length/\List.map IV.str (bN f)=List.map IV.str (bN A)/\sJ=sJ)/\(c7L m ks)/\(Es.dp ks<d/\(A=0\/A=1)/\(E.wf A (E.mk K V y z ks) \/K=0/\ks=[])/\aN r=true/\aN u=true)/\aM (k==1) (c7H f nm h Q) (c7G f k r u nm O h Q)))) (∃(d:Nat),∃(i:Int),∃(ks:List E),(c7I f i)/\(c7K p ks)/\(Es.dp ks<d/\(i=0\/i=1)/\(E.wf i (E.mk L T G D ks) \/L=0/\ks=[])/\aN r=true/\aN u=true)/\∃(d:Nat),∃(j:Int),∃(ks:List E),(c7J f j)/\(c7L m ks)/\(Es.dp ks<d/\(j=0\/j=1)/\(E.wf j (E.mk K V y z ks) \/K=0/\ks=[])/\aN r=true/\aN u=true)/\aM (k==1) (c7H f nm h Q) (c7G f k r u nm O h Q)))) (∃(d:Nat),∃(l:Int),∃(ks:List E),(d7N f l)/\(c7K p ks)/\(Es.dp ks<d/\(l=0\/l=1)/\(E.wf l (E.mk L T G D ks) \/L=0/\ks=[])/\aN r=true/\aN u=true)/\∃(d:Nat),∃(i:Int),∃(ks:List E),(c7I f i)/\(c7L m ks)/\(Es.dp ks<d/\(i=0\/i=1)/\(E.wf i (E.mk K V y z ks) \/K=0/\ks=[])/\aN r=true/\aN u=true)/\aM (k==1) (c7H f nm h Q) (c7G f k r u nm O h Q)))):=by kernel_rfl
theorem g6X: ∀xs h Q,f5D xs h Q->aU env 203 xs h Q:=by
 intro xs h Q A;unfold f5D at A;split at A
 ·rename_i nv cv ca pa pf k nm to n ak an a2 a1 am ac vk vn Y a0 vm vc m c mt ct ml cl;obtain⟨p,l,G,th,el,f,⟨rfl,rfl,rfl,rfl,rfl,rfl,rfl,rfl,rfl,rfl⟩,K,⟨rfl,rfl,rfl⟩,⟨r,V,he⟩,A⟩:=A;refine aS (e9W) (g6W f pa pf k nm to n ak an a2 a1 p vk vn Y a0 l G th el h Q) ?_;delta c7G sJ c7H c7I c7J d7N c7K c7L iI;obtain⟨da,dv,dr⟩:=he;have a7:Es.dp p<=5:=da;have a8:Es.dp l<=5:=dv;obtain⟨j,g⟩:=K.pure;obtain⟨u,y,b3⟩:=V.e;refine aA (by simp only [aN,bL,bG,bW,bP,cI,h1L,j,g]) ?_;unfold lC at V;rcases V with⟨rfl,z,rfl,rfl,O,L,rfl,rfl,rfl⟩| ⟨rfl,z,rfl,rfl,O,L,rfl,rfl,rfl⟩| ⟨rfl,rfl,rfl,rfl,O,L,rfl⟩| ⟨rfl,rfl,rfl,rfl,O,L,rfl,rfl⟩| ⟨rfl,rfl,rfl,rfl,O,L,rfl,rfl,rfl⟩| ⟨rfl,z,X,rfl,O,L,D,rfl,rfl⟩| ⟨rfl,rfl,rfl,⟨b1,b0⟩,O,L,rfl,rfl,rfl⟩
  ·exact nG ((by first|decide|exact fG (by decide))) ⟨1000,f,p,⟨rfl,rfl,rfl⟩,⟨rfl,rfl⟩,⟨by omega,r,lO u,j,g⟩,1000,f,l,⟨rfl,rfl,rfl⟩,⟨rfl,rfl⟩,⟨by omega,r,lO y,j,g⟩,bt rfl ⟨bN f,⟨rfl,rfl⟩,xI f,cO A (by rw [decide_eq_true z])⟩⟩
  ·exact nG ((by first|decide|exact fG (by decide))) ⟨1000,f,p,⟨rfl,rfl,rfl⟩,⟨rfl,rfl⟩,⟨by omega,r,lO u,j,g⟩,1000,f,l,⟨rfl,rfl,rfl⟩,⟨rfl,rfl⟩,⟨by omega,r,lO y,j,g⟩,bf rfl (bf rfl (bt rfl ⟨oW,⟨rfl,rfl⟩,(by first|decide|exact fG (by decide)),cO A (by rw [decide_eq_true z])⟩))⟩
  ·exact nG ((by first|decide|exact fG (by decide))) ⟨1000,f,p,⟨rfl,rfl,rfl⟩,⟨rfl,rfl⟩,⟨by omega,r,lO u,j,g⟩,1000,f,l,⟨rfl,rfl,rfl⟩,⟨rfl,rfl⟩,⟨by omega,r,lO y,j,g⟩,bf rfl (bf rfl (bf rfl A))⟩
  ·exact nG ((by first|decide|exact fG (by decide))) ⟨1000,f,p,⟨rfl,rfl,rfl⟩,⟨rfl,rfl⟩,⟨by omega,r,lO u,j,g⟩,1000,f,l,⟨rfl,rfl,rfl⟩,⟨rfl,rfl⟩,⟨by omega,r,lO y,j,g⟩,bf rfl (bf rfl (bf rfl A))⟩
  ·exact nG ((by first|decide|exact fG (by decide))) ⟨1000,f,p,⟨rfl,rfl,rfl⟩,⟨rfl,rfl⟩,⟨by omega,r,lO u,j,g⟩,1000,f,l,⟨rfl,rfl,rfl⟩,⟨rfl,rfl⟩,⟨by omega,r,lO y,j,g⟩,bf rfl (bf rfl (bf rfl A))⟩
  ·have Z:0<G.length:=by omega
   refine brT (by omega) (aA (by rw [h2G,decide_eq_true_eq];omega) (b0Y (i:=0) Z rfl fun k2 n2 a4 b2 q e2=>?_));have w4:=Es.wf_mem D (h1B Z);have d4:=dr _ (h1B Z);rw [e2]at w4 d4;have a5:Es.dp q<=5:=d4;refine⟨1000,f,q,⟨rfl,rfl,rfl⟩,⟨rfl,rfl⟩,⟨by omega,r,.inl w4,j,g⟩,?_⟩;rcases X with⟨rfl,hl⟩| ⟨rfl,hl⟩
   ·have T:1<G.length:=by omega
    refine brT (by omega) (aA (by rw [h2G,decide_eq_true_eq];omega) (b0Y (i:=1) T rfl fun k3 n3 a3 a9 q3 e3=>?_));have w5:=Es.wf_mem D (h1B T);have d5:=dr _ (h1B T);rw [e3]at w5 d5;have a6:Es.dp q3<=5:=d5;exact⟨1000,f,q3,⟨rfl,rfl,rfl⟩,⟨rfl,rfl⟩,⟨by omega,r,.inl w5,j,g⟩,nG (by omega) ⟨1000,f,p,⟨rfl,rfl,rfl⟩,⟨rfl,rfl⟩,⟨by omega,r,lO u,j,g⟩,1000,f,l,⟨rfl,rfl,rfl⟩,⟨rfl,rfl⟩,⟨by omega,r,lO y,j,g⟩,bf rfl (bt rfl ⟨bN f,⟨rfl,rfl⟩,xI f,brT z ⟨K,.inl rfl,A⟩⟩)⟩⟩
   ·exact nG (by omega) ⟨1000,f,p,⟨rfl,rfl,rfl⟩,⟨rfl,rfl⟩,⟨by omega,r,lO u,j,g⟩,1000,f,l,⟨rfl,rfl,rfl⟩,⟨rfl,rfl⟩,⟨by omega,r,lO y,j,g⟩,bf rfl (bt rfl ⟨bN f,⟨rfl,rfl⟩,xI f,brT z ⟨K,.inr rfl,A⟩⟩)⟩
  ·exact nG ((by first|decide|exact fG (by decide))) ⟨1000,f,p,⟨rfl,rfl,rfl⟩,⟨rfl,rfl⟩,⟨by omega,r,lO u,j,g⟩,1000,f,l,⟨rfl,rfl,rfl⟩,⟨rfl,rfl⟩,⟨by omega,r,lO y,j,g⟩,bf rfl (bf rfl (bf rfl A))⟩
 ·exact A.elim
def f5E:=bB 203 f5D f5C
theorem e9X:aT env f5E:=aI g6X (e9W)
def f5F(f:Int)(g j:List IV)(l:List S)(b:Bool):Inv':=hJ Nat (fun i=>[(1,.v (.vslice none 0 l.length 17 (aX l))),(2,.v (.bool b)),(3,.l 3 0),(7,.v (.int .i64 (i:Int)))]) (fun _=>[(3,[.vslice none 0 (bN f).length 1 ((bN f).map IV.str),.vslice none 0 2 1 (oW.map IV.str),.vslice none 0 2 2 g,.vslice none 0 2 9 j])]) (fun _=>Heap.empty) (fun i=>i<=l.length) (fun i=>l.length-i)
def d7O(d:Nat)(xs:List IV)(h:Heap)(K:KT):Prop:=match xs with
 | [.agg [.vslice none 0 nv 1 cv,.vslice none 0 2 1 ca,.vslice none 0 2 2 pa,.vslice none 0 2 9 pf],.vslice none 0 m 17 c,.bool b]=> ∃(l:List S)(f:Int),lD pa pf/\(m=l.length/\c=aX l)/\(nv=(bN f).length/\cv=(bN f).map IV.str/\ca=oW.map IV.str)/\((f=0\/f=1)/\Ss.cnt l<d/\Ss.cnt l<=1000/\Ss.wf f l/\Ss.ed 5 l)/\K (.bool true) h
 |_=>False
def a0V:=[IV.str [97],IV.str [98]]
def uI(f:Int)(g i:List IV):=[IV.vslice none 0 ((bN f).length) 1 (List.map IV.str (bN f)),IV.vslice none 0 2 1 a0V,IV.vslice none 0 2 2 g,IV.vslice none 0 2 9 i]
abbrev xQ(f g:Int):=(bN f).length=(bN g).length/\List.map IV.str (bN f)=List.map IV.str (bN g)/\a0V=a0V
abbrev c7M(f g:Int):=(bN f).length=(bN g).length/\List.map IV.str (bN f)=List.map IV.str (bN g)/\a0V=a0V
def c7N(l:List S):=TV.v (.vslice none 0 l.length 17 (aX l))
def xR:=TV.l 3 0
abbrev d7P(j:Nat)(g:List M10.S)(i:Int):=(i=0\/i=1)/\Ss.cnt g<j/\Ss.cnt g<=1000/\Ss.wf i g/\Ss.ed 5 g
abbrev d7Q(j:Nat)(g:List M10.S)(i:Int):=(i=0\/i=1)/\Ss.cnt g<j/\Ss.cnt g<=1000/\Ss.wf i g/\Ss.ed 5 g
def c1M(b:Bool)(f:Int)(l:List S)(i j:List IV)(x:Nat):Prop:= ∃(g:Nat),some (c7N l)=some (c7N l)/\some (TV.v (.bool b))=some (TV.v (.bool b))/\some xR=some xR/\tI (wW ((x:Int)+1))=tI (g:Int)/\some (uI f i j)=some (uI f i j)/\Heap.mk PT.nil 0=Heap.mk PT.nil 0/\Nat.le g l.length/\l.length-g<l.length-x
theorem g6Y(O:Nat)(f:Int)(r p:List IV)(l:List S)(b:Bool)(h:Heap)(Q:KT):dF (aV (bB 145 (d7O O) f5E)) env 145 dV (tK 3 (f5F f r p l b)) bT [.agg [.vslice none 0 (bN f).length 1 ((bN f).map IV.str),.vslice none 0 2 1 (oW.map IV.str),.vslice none 0 2 2 r,.vslice none 0 2 9 p],.vslice none 0 l.length 17 (aX l),.bool b] h Q=(
 aC (aN [IV.agg (uI f r p),IV.vslice none 0 l.length 17 (aX l),IV.bool b]) ((∃(x:Nat),some (c7N l)=some (c7N l)/\some (TV.v (.bool b))=some (TV.v (.bool b))/\some xR=some xR/\tI 0=tI (x:Int)/\some (uI f r p)=some (uI f r p)/\Heap.mk PT.nil 0=Heap.mk PT.nil 0/\Nat.le x l.length/\True)/\∀(x:Nat)(a8:FF),x<=l.length->aM (decide ((x:Int)< (l.length:Int))) (aC (decide (0<=(x:Int)) &&decide ((x:Int)< (l.length:Int))) (aK .i64 (aX l) ((x:Int).toNat*17) fun n0=>bZ (aX l) ((x:Int).toNat*17+1) fun(s1:List UInt8)=>bZ (aX l) ((x:Int).toNat*17+1+1) fun(T:List UInt8)=>aK .i64 (aX l) ((x:Int).toNat*17+1+1+1) fun n3=>aK .i64 (aX l) ((x:Int).toNat*17+1+1+1+1) fun n4=>aK .i64 (aX l) ((x:Int).toNat*(17:Nat)+1+1+1+1+1) fun n5=>bZ (aX l) ((x:Int).toNat*17+1+1+1+1+1+1) fun(s6:List UInt8)=>aK .i64 (aX l) ((x:Int).toNat*17+(1:Nat)+1+1+1+1+1+1) fun n7=>bH 5 (aX l) ((x:Int).toNat*17+1+1+1+1+1+1+1+1) fun(i8:Option Nat)(e9 a4:Nat)(a3:List IV)=>aK .i64 (aX l) ((x:Int).toNat*17+1+1+1+1+1+1+1+1+1) fun a0=>aK .i64 (aX l) ((x:Int).toNat*17+1+1+1+1+(1:Nat)+1+1+1+1+1) fun V=>bZ (aX l) ((x:Int).toNat*17+1+1+1+1+1+1+1+1+1+1+1) fun(Y:List UInt8)=>aK .i64 (aX l) ((x:Int).toNat*17+1+1+1+1+1+1+1+1+1+1+1+1) fun X=>bH 5 (aX l) ((x:Int).toNat*17+1+1+(1:Nat)+1+1+1+1+1+1+1+1+1+1) fun(b3:Option Nat)(b4 a6:Nat)(a5:List IV)=>bH 5 (aX l) ((x:Int).toNat*17+1+1+1+1+(1:Nat)+1+1+1+1+1+1+1+1+1) fun(b0:Option Nat)(b2 Z:Nat)(a1:List IV)=>bH 17 (aX l) ((x:Int).toNat*17+1+1+1+1+1+1+(1:Nat)+1+1+1+1+1+1+1+1) fun(a7:Option Nat)(b6 D:Nat)(z:List IV)=>bH 17 (aX l) ((x:Int).toNat*17+1+1+1+1+1+1+(1:Nat)+1+1+1+1+1+1+1+1+1) fun(b8:Option Nat)(a9 G:Nat)(A:List IV)=>aM b (aM (n0==6) (lD r p/\(T=[102] \/T=[103])/\aC (decide (0<=if T=[(102:UInt8)]then(0:Int)else(1:Int)) &&decide ((if T=[102]then(0:Int)else(1:Int))<2)) (bH 1 p (Int.toNat (if T=[102]then(0:Int)else(1:Int))*9+1) fun(b7:Option Nat)(b5 a2:Nat)(b1:List IV)=>aM ((Z:Int) !=(a2:Int)) (Q (.bool false) h) (∃(i:List M10.S),∃(m:Int),lD r p/\(D=i.length/\z=aX i)/\(xQ f m)/\(d7P O i m)/\∃(g:List M10.S),∃(j:Int),lD r p/\(G=g.length/\A=aX g)/\(c7M f j)/\(d7Q O g j)/\c1M b f l r p x))) (∃(i:List M10.S),∃(m:Int),lD r p/\(D=i.length/\z=aX i)/\(xQ f m)/\(d7P O i m)/\∃(g:List M10.S),∃(j:Int),lD r p/\(G=g.length/\A=aX g)/\(c7M f j)/\(d7Q O g j)/\c1M b f l r p x)) (∃(L K u:List E),∃(th:List M10.S),∃(el:List M10.S),∃(m:Int),(a4=L.length/\a3=aW L/\a6=K.length/\a5=aW K/\Z=u.length/\a1=aW u/\D=th.length/\z=aX th/\G=el.length/\A=aX el)/\lD r p/\(xQ f m)/\((m=0\/m=1)/\lC m n0 s1 T n3 (E.mk n4 n5 s6 n7 L) (E.mk a0 V Y X K) u th el/\E.dp (E.mk n4 n5 s6 n7 L)<=5/\E.dp (E.mk a0 V Y X K)<=5/\∀(x:E),x∈u->E.dp x<=5)/\∃(i:List M10.S),∃(j:Int),lD r p/\(D=i.length/\z=aX i)/\(c7M f j)/\((j=0\/j=1)/\Ss.cnt i<O/\Ss.cnt i<=1000/\Ss.wf j i/\Ss.ed 5 i)/\∃(g:List M10.S),∃(y:Int),lD r p/\(G=g.length/\A=aX g)/\((bN f).length=(bN y).length/\List.map IV.str (bN f)=List.map IV.str (bN y)/\a0V=a0V)/\((y=0\/y=1)/\Ss.cnt g<O/\Ss.cnt g<=1000/\Ss.wf y g/\Ss.ed 5 g)/\c1M b f l r p x))) (Q (.bool true) h))):=by kernel_rfl
theorem g6Z: ∀d xs h Q,d7O d xs h Q->aU env 145 xs h Q:=by
 intro d
 induction d with
 |zero=>
  intro xs h Q p;unfold d7O at p;split at p
  ·rename_i nv cv ca pa T m c b;obtain⟨l,f,g,⟨rfl,rfl⟩,⟨rfl,rfl,rfl⟩,⟨u,hd,hb,hw,he⟩,p⟩:=p;omega
  ·exact p.elim
 |succ dd ih=>
  intro xs h Q p;unfold d7O at p;split at p
  ·rename_i nv cv ca pa T m c b;obtain⟨l,f,g,⟨rfl,rfl⟩,⟨rfl,rfl,rfl⟩,⟨u,hd,hb,hw,he⟩,p⟩:=p;refine aS (aI ih (e9X)) (g6Y dd f pa T l b h Q) ?_;delta c1M uI a0V xQ c7M c7N xR d7P d7Q tI wW;have lc:=Ss.len_cnt l;obtain⟨a0,Y⟩:=g.pure;refine aA (by simp only [aN,bL,bG,bW,bP,cI,h1L,a0,Y]) ⟨⟨0,rfl,rfl,rfl,rfl,rfl,rfl,h1N _,trivial⟩,?_⟩;rintro i _ hi;refine dW (fun c=>?_) (fun c=>p);have j:i<l.length:=by omega
   refine aP (by omega) (e5U j (by rw [h0Z]) fun k nm to n ak an a7 a6 a2 vk vn a4 a5 a1 r G K e=>?_);have h1:=Ss.cnt_mem (h1B j);have e1:l[i].cnt=1+Ss.cnt G+Ss.cnt K:=by rw [e];rfl
   have L:=Ss.wf_mem hw (h1B j);have O:=Ss.ed_mem he (h1B j);rw [e]at L O;obtain⟨V,y,A⟩:=L;obtain⟨a3,z,D⟩:=O;refine bx (aD (fun c6=>?_) (fun c6=>⟨G,f,g,⟨rfl,rfl⟩,⟨rfl,rfl,rfl⟩,⟨u,by omega,by omega,y,z⟩,K,f,g,⟨rfl,rfl⟩,⟨rfl,rfl,rfl⟩,⟨u,by omega,by omega,A,D⟩,i+1,rfl,rfl,rfl,(by(try dsimp only);rw [h0X _ (by omega)];rfl),rfl,rfl,j,by omega⟩)) ⟨a2,a1,r,G,K,f,⟨rfl,rfl,rfl,rfl,rfl,rfl,rfl,rfl,rfl,rfl⟩,g,⟨rfl,rfl,rfl⟩,⟨u,V,a3⟩,G,f,g,⟨rfl,rfl⟩,⟨rfl,rfl,rfl⟩,⟨u,by omega,by omega,y,z⟩,K,f,g,⟨rfl,rfl⟩,⟨rfl,rfl,rfl⟩,⟨u,by omega,by omega,A,D⟩,i+1,rfl,rfl,rfl,(by(try dsimp only);rw [h0X _ (by omega)];rfl),rfl,rfl,j,by omega⟩;rw [beq_iff_eq]at c6;have X:(to=[102]/\r.length=2) \/ (to=[103]/\r.length=1):=by
    unfold lC at V;rcases V with h|h|h|h|h|h|h
    ·omega
    ·omega
    ·omega
    ·omega
    ·omega
    ·exact h.2.2.1
    ·omega
   rcases X with⟨rfl,hl⟩| ⟨rfl,hl⟩
   ·refine⟨g,.inl rfl,aA rfl ?_⟩;have Z:T[Int.toNat (if([102]:List UInt8)=[102]then 0 else 1)*9+1]?=some (.vslice none 1 2 1 [.str [120],.str [121]]):=by
     obtain⟨la,lb,b0,v0,b1,v1,rfl,rfl⟩:=g;rfl
    exact dY Z (bf (by rw [hl];rfl) ⟨G,f,g,⟨rfl,rfl⟩,⟨rfl,rfl,rfl⟩,⟨u,by omega,by omega,y,z⟩,K,f,g,⟨rfl,rfl⟩,⟨rfl,rfl,rfl⟩,⟨u,by omega,by omega,A,D⟩,i+1,rfl,rfl,rfl,(by(try dsimp only);rw [h0X _ (by omega)];rfl),rfl,rfl,j,by omega⟩)
   ·refine⟨g,.inr rfl,aA rfl ?_⟩;have Z:T[Int.toNat (if([103]:List UInt8)=[102]then 0 else 1)*9+1]?=some (.vslice none 1 1 1 [.str [110]]):=by
     obtain⟨la,lb,b0,v0,b1,v1,rfl,rfl⟩:=g
     cases v0
     rfl
    exact dY Z (bf (by rw [hl];rfl) ⟨G,f,g,⟨rfl,rfl⟩,⟨rfl,rfl,rfl⟩,⟨u,by omega,by omega,y,z⟩,K,f,g,⟨rfl,rfl⟩,⟨rfl,rfl,rfl⟩,⟨u,by omega,by omega,A,D⟩,i+1,rfl,rfl,rfl,(by(try dsimp only);rw [h0X _ (by omega)];rfl),rfl,rfl,j,by omega⟩)
  ·exact p.elim
def f5G:=bB 145 (fun xs h K=> ∃d,d7O d xs h K) f5E
theorem e9Y:aT env f5G:=aI (fun xs h Q g=>g.elim fun d g=>g6Z d xs h Q g) (e9X)
def d7R(xs:List IV)(h:Heap)(K:KT):Prop:=match xs with
 | [.agg [.vslice none 0 2 2 ac,.vslice none 0 2 9 fc]]=>qG ac fc/\K (.int .i64 0) h
 |_=>False
def a4L(r u:List S)(A un m z y p:Int)(j l:List UInt8)(i g:List E):=[IV.str [102],IV.vslice none 1 2 1 [IV.str [120],IV.str [121]],IV.vslice none 1 2 1 [IV.str [105],IV.str [106]],IV.vslice none 0 r.length 17 (aX r),iI A,iI un,IV.str j,iI m,IV.vslice none 0 i.length 5 (aW i),IV.str [103],IV.vslice none 1 1 1 [IV.str [110]],IV.vslice none 1 1
 1 [IV.str [105]],IV.vslice none 0 u.length 17 (aX u),iI z,iI y,IV.str l,iI p,IV.vslice none 0 g.length 5 (aW g)]
def a4M(g i:Int):=[IV.str [97],iI g,IV.str [98],iI i]
abbrev e6N(f:Int):=(4:Nat)=(bN f).length/\[IV.str [120],IV.str [121],IV.str [105],IV.str [106]]=List.map IV.str (bN f)/\[IV.str [97],IV.str [98]]=[IV.str [97],IV.str [98]]
abbrev e6O(f:Int):=(2:Nat)=(bN f).length/\[IV.str [110],IV.str [105]]=List.map IV.str (bN f)/\[IV.str [97],IV.str [98]]=[IV.str [97],IV.str [98]]
abbrev d7S(d:Nat)(l:List M10.S)(f:Int):=(f=0\/f=1)/\Ss.cnt l<d/\Ss.cnt l<=1000/\Ss.wf f l/\Ss.ed 5 l
theorem g2E(G K:Int)(u:List S)(A un:Int)(m:List UInt8)(p:Int)(i:List E)(y:List S)(z D:Int)(j:List UInt8)(r:Int)(g:List E)(h:Heap)(Q:KT):dF (aV f5G) env 76 (fun k=>3) bT bT [.agg [.vslice none 0 2 2 [.str [97],.int .i64 G,.str [98],.int .i64 K],.vslice none 0 2 9 [.str [102],.vslice none 1 2 1 [.str [120],.str [121]],.vslice none 1 2 1 [.str [105],.str [106]],.vslice none 0 u.length 17 (aX u),.int .i64 A,.int .i64 un,.str m,.int .i64 p,.vslice none 0 i.length 5 (aW i),.str [103],.vslice none 1 1 1 [.str [110]],.vslice none 1 1 1 [.str [105]],.vslice none 0 y.length 17 (aX y),.int .i64 z,.int .i64 D,.str j,.int .i64 r,.vslice none 0 g.length 5 (aW g)]]] h Q=(
 aC (aN [IV.agg [.vslice none 0 2 2 (a4M G K),IV.vslice none 0 2 9 (a4L u y A un p z D r m j i g)]]) (qG (a4M G K) (a4L u y A un p z D r m j i g)/\qG (a4M G K) (a4L u y A un p z D r m j i g)/\lD (a4M G K) (a4L u y A un p z D r m j i g)/\∃(d:Nat),∃(l:List M10.S),∃(f:Int),lD (a4M G K) (a4L u y A un p z D r m j i g)/\(u.length=l.length/\aX u=aX l)/\(e6N f)/\(d7S d l f)/\∃(d:Nat),∃(f:Int),∃(ks:List E),(e6N f)/\(i.length=ks.length/\aW i=aW ks)/\(Es.dp ks<d/\(f=0\/f=1)/\(E.wf f (E.mk A un m p ks) \/A=0/\ks=[])/\aN (a4M G K)=true/\aN (a4L u y A un p z D r m j i g)=true)/\∃(d:Nat),∃(l:List M10.S),∃(f:Int),lD (a4M G K) (a4L u y A un p z D r m j i g)/\(y.length=l.length/\aX y=aX l)/\(e6O f)/\(d7S d l f)/\∃(d:Nat),∃(f:Int),∃(ks:List E),(e6O f)/\(g.length=ks.length/\aW g=aW ks)/\(Es.dp ks<d/\(f=0\/f=1)/\(E.wf f (E.mk z D j r ks) \/z=0/\ks=[])/\aN (a4M G K)=true/\aN (a4L u y A un p z D r m j i g)=true)/\∃(d:Nat),∃(l:List M10.S),∃(f:Int),lD (a4M G K) (a4L u y A un p z D r m j i g)/\(u.length=l.length/\aX u=aX l)/\(e6N f)/\(d7S d l f)/\∃(d:Nat),∃(l:List M10.S),∃(f:Int),lD (a4M G K) (a4L u y A un p z D r m j i g)/\(y.length=l.length/\aX y=aX l)/\(e6O f)/\(d7S d l f)/\Q (.int .i64 0) h)):=by kernel_rfl
theorem g2F: ∀xs h Q,d7R xs h Q->aU env 76 xs h Q:=by
 intro xs h Q j;unfold d7R at j;split at j
 ·rename_i ac fc;have y:=j.1;obtain⟨⟨O,T,A,⟨X,un,z,G,l⟩,L,⟨Z,V,D,K,i⟩,Y,rfl,rfl⟩,j⟩:=j;refine aS (e9Y) (g2E O T A X un z G l L Z V D K i h Q) ?_;delta a4L a4M e6N e6O d7S iI;obtain⟨u,r⟩:=y.q.pure;have p:=y.q;obtain⟨_,g,m⟩:=Y;have x0:=g.cnt;have x3:Es.dp l<=5:=g.vd;have y0:=m.cnt;have y3:Es.dp i<=5:=m.vd;have w1:=EW.of g.vw;refine aA (by simp only [aN,bL,bG,bW,bP,cI,h1L]) ⟨y,y,p,1000,A,0,p,⟨rfl,rfl⟩,⟨rfl,rfl,rfl⟩,⟨.inl rfl,by omega,by omega,g.wf,g.ed⟩,1000,0,l,⟨rfl,rfl,rfl⟩,⟨rfl,rfl⟩,⟨by omega,.inl rfl,.inl g.vw,u,r⟩,
   1000,L,1,p,⟨rfl,rfl⟩,⟨rfl,rfl,rfl⟩,⟨.inr rfl,by omega,by omega,m.wf,m.ed⟩,1000,1,i,⟨rfl,rfl,rfl⟩,⟨rfl,rfl⟩,⟨by omega,.inr rfl,.inl m.vw,u,r⟩,
   1000,A,0,p,⟨rfl,rfl⟩,⟨rfl,rfl,rfl⟩,⟨.inl rfl,by omega,by omega,g.wf,g.ed⟩,1000,L,1,p,⟨rfl,rfl⟩,⟨rfl,rfl,rfl⟩,⟨.inr rfl,by omega,by omega,m.wf,m.ed⟩,j⟩
 ·exact j.elim
def d7T:=bB 76 d7R f5G
theorem d7U:aT env d7T:=aI g2F (e9Y)
def g2G(op im:Int)(ks:List Int)(p m:Int)(g:List Int):Inv':=hJ Nat (fun i=>[(2,.l 2 0),(3,.l 3 0),(5,.v (.int .i64 i))]) (fun _=>[(2,[.int .i64 op,.int .i64 im,.vslice none 0 ks.length 1 (ks.map (IV.int .i64))]),(3,[.int .i64 p,.int .i64 m,.vslice none 0 g.length 1 (g.map (IV.int .i64))])]) (fun _=>Heap.empty)
 (fun i=>(ks.length=g.length/\i<=ks.length)/\∀j,j<i->ks[j]?=g[j]?) (fun i=>ks.length-i)
def b1N(xs:List IV)(h:Heap)(K:KT):Prop:=match xs with
 | [.agg [.int .i64 op,.int .i64 im,.vslice none e1 n1 1 c1],.agg [.int .i64 op2,.int .i64 im2,.vslice none e2 n2 1 c2]]=> ∃ks ks2:List Int,(n1=ks.length/\c1=ks.map (IV.int .i64))/\(n2=ks2.length/\c2=ks2.map (IV.int .i64))/\ks.length<=1000000000/\K (.bool (decide ((⟨op,im,ks⟩:Nd)=⟨op2,im2,ks2⟩))) h
 |_=>False
def d1V(op im:Int)(ks:List Int):=[iI op,iI im,IV.vslice none 0 ks.length 1 (List.map (IV.int .i64) ks)]
def d1W(i j:Int)(g:List Int):=[iI i,iI j,IV.vslice none 0 g.length 1 (List.map (IV.int .i64) g)]
def d7V:=TV.l 2 0
def d7W:=TV.l 3 0
def f5H(ks g:List Int)(x:Nat):=((ks.length=g.length/\x<=ks.length)/\∀(j:Nat),j<x->ks[j]?=g[j]?)
theorem e6P(op im i l:Int)(ks g:List Int)(u r:Nat)(h:Heap)(Q:KT):dF (aV d7T) env 50 dV (tK 5 (g2G op im ks i l g)) bT [.agg [.int .i64 op,.int .i64 im,.vslice none u ks.length 1 (ks.map (IV.int .i64))],.agg [.int .i64 i,.int .i64 l,.vslice none r g.length 1 (g.map (IV.int .i64))]] h Q=(
 aC (aN [IV.agg (d1V op im ks),IV.agg (d1W i l g)]) (aM (op !=i) (Q (.bool false) h) (aM (im !=l) (Q (.bool false) h) (aM ((ks.length:Int) !=(g.length:Int)) (Q (.bool false) h) ((∃(x:Nat),some d7V=some d7V/\some d7W=some d7W/\some (TV.v (iI 0))=tI (x:Int)/\some (d1V op im ks)=some (d1V op im ks)/\some (d1W i l g)=some (d1W i l g)/\Heap.mk PT.nil 0=Heap.mk PT.nil 0/\(f5H ks g x)/\True)/\∀(x:Nat)(b:FF),(f5H ks g x)->aM (decide ((x:Int)< (ks.length:Int))) (aC (decide (0<=(x:Int)) &&decide ((x:Int)< (ks.length:Int))) (aK .i64 (List.map (IV.int .i64) ks) ((x:Int).toNat*1) fun p=>aC (decide (0<=(x:Int)) &&decide ((x:Int)< (g.length:Int))) (aK .i64 (List.map (IV.int .i64) g) ((x:Int).toNat*1) fun y=>aM (p !=y) (Q (.bool false) h) (∃(m:Nat),some d7V=some d7V/\some d7W=some d7W/\tI (wW ((x:Int)+1))=tI (m:Int)/\some (d1V op im ks)=some (d1V op im ks)/\some (d1W i l g)=some (d1W i l g)/\Heap.mk PT.nil 0=Heap.mk PT.nil 0/\((ks.length=g.length/\m<=ks.length)/\∀(j:Nat),j<m->ks[j]?=g[j]?)/\ks.length-m<ks.length-x)))) (Q (.bool true) h)))))):=by kernel_rfl
theorem e6Q: ∀xs h Q,b1N xs h Q->aU env 50 xs h Q:=by
 intro xs h Q y;unfold b1N at y;split at y
 ·rename_i op im O n1 r l m Y n2 A;obtain⟨ks,g,⟨rfl,rfl⟩,⟨rfl,rfl⟩,Z,y⟩:=y;refine aS (d7U) (e6P op im l m ks g O Y h Q) ?_;delta d1V d1W d7V d7W f5H tI wW iI;have X: ∀x:Nat,(x:Int).toNat=x:=h0Z
  have fin: ∀b:Bool,(b=true ↔ (op=l/\im=m/\ks=g))->Q (.bool b) h:=fun b e=>by
   have:b=decide ((⟨op,im,ks⟩:Nd)=⟨l,m,g⟩):=by
    rw [h5Z,e,decide_eq_true_eq,Nd.mk.injEq]
   rw [this];exact y
  have z: ¬ (op=l/\im=m/\ks=g)->Q (.bool false) h:=fun e=>fin false ⟨fun q=>(by cases q),fun q=>absurd q e⟩
  refine aA (by simp only [aN,bL,cH,h1L]) (aD (fun c=>z (fun e=>bne_iff_ne.1 c e.1)) (fun r=>aD (fun c=>z (fun e=>bne_iff_ne.1 c e.2.1)) (fun A=>aD (fun c=>z (fun e=>bne_iff_ne.1 c (by rw [e.2.2]))) (fun L=>?_))));rw [bne_eq_false_iff_eq]at r A L;subst r A;have G:ks.length=g.length:=by omega
  refine⟨⟨0,rfl,rfl,rfl,rfl,rfl,rfl,⟨⟨G,h1N _⟩,fun j V=>by omega⟩,trivial⟩,?_⟩;rintro i _ ⟨⟨T,K⟩,D⟩
  try dsimp only at K D⊢
  refine aD (fun c=>?_) (fun c=>?_)
  ·rw [decide_eq_true_eq]at c;have u:i<ks.length:=by omega
   have p:i<g.length:=by omega
   simp only [X];rw [h1W];refine aA (by simp;omega) (gH u (aA (by simp;omega) (gH p (aD (fun r=>z (fun e=>?_)) (fun r=>⟨i+1,.intro,.intro,?_,.intro,.intro,.intro,⟨⟨G,u⟩,fun j V=>?_⟩,by(try dsimp only);omega⟩)))))
   ·have e:=e.2.2;subst e;simp at r
   ·rw [h0X _ (by omega)];rfl
   ·rcases h2D j i with q|q
    ·exact D j q
    ·obtain rfl:j=i:=by omega
     rw [bne_eq_false_iff_eq]at r;rw [h0U u,h0U p,r]
  ·rw [decide_eq_false_iff_not]at c;refine fin true ⟨fun _=>⟨rfl,rfl,h3T fun j=>?_⟩,fun _=>rfl⟩;rcases h2D j i with q|q
   ·exact D j q
   ·rw [h2E (by omega),h2E (by omega)]
 ·exact y.elim
def b1O:=bB 50 b1N d7T
theorem b6S:aT env b1O:=aI e6Q (d7U)
def g2H(id:Nat)(op im:Int)(kn:Nat)(g:List IV)(p:PSt)(h:Heap):Inv':= .or
 (hJ Nat (fun i=>[(0,.v (.ptr id 0)),(9,.l 9 0),(10,.v (.int .i64 (i:Int)))]) (fun _=>[(9,[.int .i64 op,.int .i64 im,.vslice none 1 0 1 []])]) (fun _=>h) (fun i=>kn=0/\PuI p op im i) (fun i=>p.ns.length-i))
 (hJ Nat (fun i=>[(0,.v (.ptr id 0)),(9,.l 9 0),(10,.v (.int .i64 (i:Int)))]) (fun _=>[(9,[.int .i64 op,.int .i64 im,.vslice (some h.next) kn kn 1 g])]) (fun _=>h.push (.tip kn)) (fun i=>PuI p op im i) (fun i=>p.ns.length-i))
def f5I(xs:List IV)(h:Heap)(K:KT):Prop:=match xs with
 | [.ptr id 0,.int .i64 op,.int .i64 im,.vslice none 0 kn 1 kc]=> ∃p:PSt,bI h id p op im kn kc/\∀(v:Int)(h2:Heap),aQ h id p op im v h2->K (.int .i64 v) h2
 |_=>False
def d1X(op im:Int):=[iI op,iI im,IV.vslice none 0 0 1 []]
def d1Y(op im:Int)(kn:Nat)(g:List IV):=[iI op,iI im,IV.vslice none 0 kn 1 g]
def d7X(op im:Int)(kn:Nat)(g:List IV)(h:Heap):=[IV.vslice (some (h.next+1)) 3 1 3 (d1Y op im kn g)]
def mD(kn:Nat)(h:Heap):=h.push (IObj.tip kn)
def b1P(kn:Nat)(h:Heap):=(mD kn h).push (IObj.tip 3)
def d7Y(op im:Int)(h:Heap):=[IV.vslice (some (h.next)) 3 1 3 (d1X op im)]
def b1Q(op im:Int):=[iI op,iI im,IV.vslice none 1 0 1 []]
def sK:=iI (-1)
def b1R(h:Heap):=h.push (IObj.tip 3)
def sL:=TV.l 9 0
def c1R(op im:Int)(kn:Nat)(g:List IV)(h:Heap):=[iI op,iI im,IV.vslice (some (h.next)) kn kn 1 g]
def sM(id:Nat):=TV.v (.ptr id 0)
def e6R(id l m j:Nat)(op im:Int)(h:Heap)(i g:List IV):=(h.set l (IObj.tip (m+3))).set id (IObj.cells (List.take 2 g++ [IV.vslice (some l) (m+3) (j+1) 3 (i++(d1X op im))]++List.drop 3 g))
def e6S(id i j l:Nat)(op im:Int)(h:Heap)(m g:List IV):=(h.set i (IObj.tip (j+3))).set id (IObj.cells (List.take 2 g++ [IV.vslice (some i) (j+3) (l+1) 3 (m++(d1X op im))]++List.drop 3 g))
def e6T(id g i m:Nat)(op im:Int)(h:Heap)(l j:List IV):=(h.set g (IObj.tip (i+3))).set id (IObj.cells (List.take 2 j++ [IV.vslice (some g) (i+3) (m+1) 3 (l++(d1X op im))]++List.drop 3 j))
def e6U(id g j l:Nat)(op im:Int)(h:Heap)(m i:List IV):=(h.set g (IObj.tip (j+3))).set id (IObj.cells (List.take 2 i++ [IV.vslice (some g) (j+3) (l+1) 3 (m++(d1X op im))]++List.drop 3 i))
def e6V(id kn i g l:Nat)(op im:Int)(p m j:List IV)(h:Heap):=((mD kn h).set i (IObj.tip (g+3))).set id (IObj.cells (List.take 2 j++ [IV.vslice (some i) (g+3) (l+1) 3 (m++(d1Y op im kn p))]++List.drop 3 j))
def e6W(id kn g i m:Nat)(op im:Int)(p l j:List IV)(h:Heap):=((mD kn h).set g (IObj.tip (i+3))).set id (IObj.cells (List.take 2 j++ [IV.vslice (some g) (i+3) (m+1) 3 (l++(d1Y op im kn p))]++List.drop 3 j))
def d7Z(x:Nat):=TV.v (.int .i64 (wW ((x:Int)+1)))
def e6X(id kn j g l:Nat)(op im:Int)(p m i:List IV)(h:Heap):=((mD kn h).set j (IObj.tip (g+3))).set id (IObj.cells (List.take 2 i++ [IV.vslice (some j) (g+3) (l+1) 3 (m++(d1Y op im kn p))]++List.drop 3 i))
def e6Y(id kn j i l:Nat)(op im:Int)(p m g:List IV)(h:Heap):=((mD kn h).set j (IObj.tip (i+3))).set id (IObj.cells (List.take 2 g++ [IV.vslice (some j) (i+3) (l+1) 3 (m++(d1Y op im kn p))]++List.drop 3 g))
def b1S(x:Nat):=iI (x:Int)
def d8A(x:Nat):=(x:Int).toNat*3+1+1
def b1T:=IV.int .i64
def d8B(x:Nat):=(x:Int).toNat*3+1
def d8C:=TV.v (.int .i64 0)
def c7P(id:Nat)(op im:Int)(h:Heap)(g:List IV):=(b1R h).set id (IObj.cells (List.take 2 g++(d7Y op im h)++List.drop 3 g))
def c7Q(id:Nat)(op im:Int)(h:Heap)(g:List IV):=(b1R h).set id (IObj.cells (List.take 2 g++(d7Y op im h)++List.drop 3 g))
def c7R(id:Nat)(op im:Int)(h:Heap)(g:List IV):=(b1R h).set id (IObj.cells (List.take 2 g++(d7Y op im h)++List.drop 3 g))
def c7S(id:Nat)(op im:Int)(h:Heap)(g:List IV):=(b1R h).set id (IObj.cells (List.take 2 g++(d7Y op im h)++List.drop 3 g))
def b6T(g:Nat):=TV.v (.int .i64 (g:Int))
def b6U(x:Nat):=(x:Int).toNat*3
def c7T(id kn:Nat)(op im:Int)(i g:List IV)(h:Heap):=(b1P kn h).set id (IObj.cells (List.take 2 g++(d7X op im kn i h)++List.drop 3 g))
def c7U(id kn:Nat)(op im:Int)(i g:List IV)(h:Heap):=(b1P kn h).set id (IObj.cells (List.take 2 g++(d7X op im kn i h)++List.drop 3 g))
def c7V(id kn:Nat)(op im:Int)(i g:List IV)(h:Heap):=(b1P kn h).set id (IObj.cells (List.take 2 g++(d7X op im kn i h)++List.drop 3 g))
def c7W(id kn:Nat)(op im:Int)(i g:List IV)(h:Heap):=(b1P kn h).set id (IObj.cells (List.take 2 g++(d7X op im kn i h)++List.drop 3 g))
def b6V(kn:Nat):=((0:Nat)+kn)*1
abbrev b6W(x:Nat):=0<=(x:Int)
def d8D(op im:Int)(p:PSt)(x:Nat):=(x<=List.length (PSt.ns p)/\∀(j:Nat),j<x->(PSt.ns p)[j]?≠some (Nd.mk op im (PSt.ks p)))
def d8E(h:Heap)(id kn x:Nat)(im op:Int)(p:PSt):Prop:= ∃(g:Nat),some (sM id)=some (sM id)/\some sL=some sL/\some (d7Z x)=some (b6T g)/\some (b1Q op im)=some (b1Q op im)/\h=h/\(kn=0/\PuI p op im g)/\List.length (PSt.ns p)-g< (PSt.ns p).length-x
def d8F(h:Heap)(id kn x:Nat)(im op:Int)(i:List IV)(p:PSt):Prop:= ∃(g:Nat),some (sM id)=some (sM id)/\some sL=some sL/\some (d7Z x)=some (b6T g)/\some (c1R op im kn i h)=some (b1Q op im)/\Heap.push h (IObj.tip kn)=h/\(kn=0/\PuI p op im g)/\List.length (PSt.ns p)-g< (PSt.ns p).length-x
def d8G(h:Heap)(id kn x:Nat)(im op:Int)(i:List IV)(p:PSt):Prop:= ∃(g:Nat),some (sM id)=some (sM id)/\some sL=some sL/\some (d7Z x)=some (b6T g)/\some (b1Q op im)=some (c1R op im kn i h)/\h=h.push (IObj.tip kn)/\(g<=List.length (PSt.ns p)/\∀(j:Nat),j<g->(PSt.ns p)[j]?≠some (Nd.mk op im (PSt.ks p)))/\List.length
 (PSt.ns p)-g< (PSt.ns p).length-x
def d8H(h:Heap)(id kn x:Nat)(im op:Int)(i:List IV)(p:PSt):Prop:= ∃(g:Nat),some (sM id)=some (sM id)/\some sL=some sL/\some (d7Z x)=some (b6T g)/\some (c1R op im kn i h)=some (c1R op im kn i h)/\Heap.push h (IObj.tip kn)=h.push (IObj.tip kn)/\(g<=List.length (PSt.ns p)/\∀(j:Nat),j<g->(PSt.ns p)[j]?≠some (Nd.mk op
 im (PSt.ks p)))/\List.length (PSt.ns p)-g< (PSt.ns p).length-x
theorem g7A(id:Nat)(op im:Int)(kn:Nat)(g:List IV)(p:PSt)(h:Heap)(Q:KT):dF (aV b1O) env 77 dV (tK 4 (g2H id op im kn g p h)) bT [.ptr id 0,.int .i64 op,.int .i64 im,.vslice none 0 kn 1 g] h Q=(
 aM (Nat.beq kn 0) (((∃(x:Nat),some (sM id)=some (sM id)/\some sL=some sL/\some d8C=some (TV.v (b1S x))/\some (b1Q op im)=some (b1Q op im)/\h=h/\(kn=0/\PuI p op im x)/\True) \/ ∃(x:Nat),some (sM id)=some (sM id)/\some sL=some sL/\some d8C=some (TV.v (b1S x))/\some (b1Q op im)=some (c1R op im kn g h)/\h=h.push (IObj.tip kn)/\(d8D op im p x)/\True)/\(∀(x:Nat)(b:FF),kn=0/\PuI p op im x->aF h id fun r0=>cK 3 r0 2 (aF h id fun r1=>cK 3 r1 2 (aF (b1R h) id fun r2=>aC (Nat.ble 3 r2.length) (aF (c7P id op im h r2) id fun r3=>cK 3 r3 2 (Q sK (c7P id op im h r2)) fun(i4 e5 l6:Nat)(c7:List IV)=>Q (.int .i64 (wW ((l6:Int)-1))) (c7P id op im h r2))) fun(i8 e9 c5:Nat)(c8:List IV)=>dG h i8 fun(i7:Nat)=>aC (Nat.beq i7 e9&&Nat.ble ((c5+1)*40) 140737488355328) (aF (h.set i8 (IObj.tip (e9+3))) id fun b4=>aC (Nat.ble 3 b4.length) (aF (e6R id i8 e9 c5 op im h c8 b4) id fun j2=>cK 3 j2 2 (Q sK (e6R id i8 e9 c5 op im h c8 b4)) fun(q3 t4 j8:Nat)(q1:List IV)=>Q (.int .i64 (wW ((j8:Int)-1))) (e6R id i8 e9 c5 op im h c8 b4)))) fun(t5 s1 i5:Nat)(s6:List IV)=>aM (decide ((x:Int)< (i5:Int))) (aF h id fun j5=>cK 3 j5 2 False fun(s7 q8 k2:Nat)(d2:List IV)=>aC (decide (b6W x) &&decide ((x:Int)< (k2:Int))) (aK .i64 d2 (b6U x) fun l5=>aK .i64 d2 (d8B x) fun j1=>bH 1 d2 (d8A x) fun(t1:Option Nat)(r5 j0:Nat)(i3:List IV)=> ∃(ks i:List Int),(j0=ks.length/\i3=List.map b1T ks)/\((0:Nat)=i.length/\[]=List.map b1T i)/\ks.length<=1000000000/\aM (decide (Nd.mk l5 j1 ks=Nd.mk op im i)) (Q (b1S x) h) ((d8E h id kn x im op p) \/d8G h id kn x im op g p))) (aF h id fun k7=>cK 3 k7 2 (aF (b1R h) id fun b9=>aC (Nat.ble 3 b9.length) (aF (c7Q id op im h b9) id fun k9=>cK 3 k9 2 (Q sK (c7Q id op im h b9)) fun(q0 s0 k0:Nat)(r8:List IV)=>Q (.int .i64 (wW ((k0:Int)-1))) (c7Q id op im h b9))) fun(a8 b2 c3:Nat)(c6:List IV)=>dG h a8 fun(i9:Nat)=>aC (Nat.beq i9 b2&&Nat.ble ((c3+1)*40) 140737488355328) (aF (h.set a8 (IObj.tip (b2+3))) id fun b8=>aC (Nat.ble 3 b8.length) (aF (e6S id a8 b2 c3 op im h c6 b8) id fun l0=>cK 3 l0 2 (Q sK (e6S id a8 b2 c3 op im h c6 b8)) fun(s2 t3 i6:Nat)(q9:List IV)=>Q (.int .i64 (wW ((i6:Int)-1))) (e6S id a8 b2 c3 op im h c6 b8)))))/\∀(x:Nat)(b:FF),PuI p op im x->aF (mD kn h) id fun k1=>cK 3 k1 2 (aF (mD kn h) id fun l8=>cK 3 l8 2 (aF (b1P kn h) id fun c0=>aC (Nat.ble 3 c0.length) (aF (c7T id kn op im g c0 h) id fun(j4:List IV)=>cK 3 j4 2 (Q sK (c7T id kn op im g c0 h)) fun(r6 t0 k3:Nat)(t2:List IV)=>Q (.int .i64 (wW ((k3:Int)-1))) (c7T id kn op im g c0 h))) fun(b3 a7 b6:Nat)(d0:List IV)=>dG (mD kn h) b3 fun(l3:Nat)=>aC (Nat.beq l3 a7&&Nat.ble ((b6+1)*40) 140737488355328) (aF ((mD kn h).set b3 (IObj.tip (a7+3))) id fun b5=>aC (Nat.ble 3 b5.length) (aF (e6V id kn b3 a7 b6 op im g d0 b5 h) id fun(j9:List IV)=>cK 3 j9 2 (Q sK (e6V id kn b3 a7 b6 op im g d0 b5 h)) fun(s8 s5 l4:Nat)(q2:List IV)=>Q (.int .i64 (wW ((l4:Int)-1))) (e6V id kn b3 a7 b6 op im g d0 b5 h)))) fun(q6 r7 k8:Nat)(q5:List IV)=>aM (decide ((x:Int)< (k8:Int))) (aF (mD kn h) id fun k5=>cK 3 k5 2 False fun(q7 r9 l2:Nat)(d1:List IV)=>aC (decide (b6W x) &&decide ((x:Int)< (l2:Int))) (aK .i64 d1 (b6U x) fun i2=>aK .i64 d1 (d8B x) fun l7=>bH 1 d1 (d8A x) fun(q4:Option Nat)(s9 j6:Nat)(j3:List IV)=> ∃(ks i:List Int),(j6=ks.length/\j3=List.map b1T ks)/\(kn=i.length/\g=List.map b1T i)/\ks.length<=1000000000/\aM (decide (Nd.mk i2 l7 ks=Nd.mk op im i)) (Q (b1S x) (mD kn h)) ((d8F h id kn x im op g p) \/d8H h id kn x im op g p))) (aF (mD kn h) id fun i1=>cK 3 i1 2 (aF (b1P kn h) id fun b7=>aC (Nat.ble 3 b7.length) (aF (c7U id kn op im g b7 h) id fun l1=>cK 3 l1 2 (Q sK (c7U id kn op im g b7 h)) fun(s3 s4 j7:Nat)(r4:List IV)=>Q (.int .i64 (wW ((j7:Int)-1))) (c7U id kn op im g b7 h))) fun(b1 a6 c2:Nat)(c9:List IV)=>dG (mD kn h) b1 fun(k4:Nat)=>aC (Nat.beq k4 a6&&Nat.ble ((c2+1)*40) 140737488355328) (aF ((mD kn h).set b1 (IObj.tip (a6+3))) id fun c1=>aC (Nat.ble 3 c1.length) (aF (e6W id kn b1 a6 c2 op im g c9 c1 h) id fun k6=>cK 3 k6 2 (Q sK (e6W id kn b1 a6 c2 op im g c9 c1 h)) fun(p7 n8 g6:Nat)(n0:List IV)=>Q (.int .i64 (wW ((g6:Int)-1))) (e6W id kn b1 a6 c2 op im g c9 c1 h))))) (aC (Nat.ble (((0:Nat)+kn)*8) 140737488355328) (((∃(x:Nat),some (sM id)=some (sM id)/\some sL=some sL/\some d8C=some (TV.v (b1S x))/\some [iI op,iI im,IV.vslice (some (h.next)) (b6V kn) ((0:Nat)+kn) 1 g]=some (b1Q op im)/\Heap.push h (IObj.tip (b6V kn))=h/\(kn=0/\PuI p op im x)/\True) \/ ∃(x:Nat),some (sM id)=some (sM id)/\some sL=some sL/\some d8C=some (TV.v (b1S x))/\some [iI op,iI im,IV.vslice (some (h.next)) (b6V kn) ((0:Nat)+kn) 1 g]=some (c1R op im kn g h)/\Heap.push h (IObj.tip (b6V kn))=h.push (IObj.tip kn)/\(d8D op im p x)/\True)/\(∀(x:Nat)(b:FF),kn=0/\PuI p op im x->aF h id fun g8=>cK 3 g8 2 (aF h id fun(d3:List IV)=>cK 3 d3 2 (aF (b1R h) id fun Y=>aC (Nat.ble 3 Y.length) (aF (c7R id op im h Y) id fun d7=>cK 3 d7 2 (Q sK (c7R id op im h Y)) fun(l9 o2 e3:Nat)(n3:List IV)=>Q (.int .i64 (wW ((e3:Int)-1))) (c7R id op im h Y))) fun(A l V:Nat)(a2:List IV)=>dG h A fun(h0:Nat)=>aC (Nat.beq h0 l&&Nat.ble ((V+1)*40) 140737488355328) (aF (h.set A (IObj.tip (l+3))) id fun O=>aC (Nat.ble 3 O.length) (aF (e6T id A l V op im h a2 O) id fun f3=>cK 3 f3 2 (Q sK (e6T id A l V op im h a2 O)) fun(p3 o0 h8:Nat)(n6:List IV)=>Q (.int .i64 (wW ((h8:Int)-1))) (e6T id A l V op im h a2 O)))) fun(n4 m5 f8:Nat)(o9:List IV)=>aM (decide ((x:Int)< (f8:Int))) (aF h id fun f1=>cK 3 f1 2 False fun(p0 p6 g5:Nat)(b0:List IV)=>aC (decide (b6W x) &&decide ((x:Int)< (g5:Int))) (aK .i64 b0 (b6U x) fun h7=>aK .i64 b0 (d8B x) fun h5=>bH 1 b0 (d8A x) fun(o1:Option Nat)(p5 f4:Nat)(e6:List IV)=> ∃(ks:List Int),∃(i:List Int),(f4=ks.length/\e6=List.map b1T ks)/\((0:Nat)=i.length/\[]=List.map b1T i)/\ks.length<=1000000000/\aM (decide (Nd.mk h7 h5 ks=Nd.mk op im i)) (Q (b1S x) h) ((d8E h id kn x im op p) \/d8G h id kn x im op g p))) (aF h id fun d5=>cK 3 d5 2 (aF (b1R h) id fun D=>aC (Nat.ble 3 D.length) (aF (c7S id op im h D) id fun g2=>cK 3 g2 2 (Q sK (c7S id op im h D)) fun(m2 n9 e2:Nat)(n5:List IV)=>Q (.int .i64 (wW ((e2:Int)-1))) (c7S id op im h D))) fun(m z Z:Nat)(a5:List IV)=>dG h m fun(f0:Nat)=>aC (Nat.beq f0 z&&Nat.ble ((Z+1)*40) 140737488355328) (aF (h.set m (IObj.tip (z+3))) id fun L=>aC (Nat.ble 3 L.length) (aF (e6U id m z Z op im h a5 L) id fun f6=>cK 3 f6 2 (Q sK (e6U id m z Z op im h a5 L)) fun(m3 m4 h6:Nat)(m6:List IV)=>Q (.int .i64 (wW ((h6:Int)-1))) (e6U id m z Z op im h a5 L)))))/\∀(x:Nat)(b:FF),PuI p op im x->aF (mD kn h) id fun e7=>cK 3 e7 2 (aF (mD kn h) id fun(g1:List IV)=>cK 3 g1 2 (aF (b1P kn h) id fun G=>aC (Nat.ble 3 G.length) (aF (c7V id kn op im g G h) id fun g4=>cK 3 g4 2 (Q sK (c7V id kn op im g G h)) fun(m8 m1 i0:Nat)(o8:List IV)=>Q (.int .i64 (wW ((i0:Int)-1))) (c7V id kn op im g G h))) fun(u r a0:Nat)(a3:List IV)=>dG (mD kn h) u fun(d8:Nat)=>aC (Nat.beq d8 r&&Nat.ble ((a0+1)*40) 140737488355328) (aF ((mD kn h).set u (IObj.tip (r+3))) id fun T=>aC (Nat.ble 3 T.length) (aF (e6X id kn u r a0 op im g a3 T h) id fun g7=>cK 3 g7 2 (Q sK (e6X id kn u r a0 op im g a3 T h)) fun(o7 n2 d9:Nat)(p9:List IV)=>Q (.int .i64 (wW ((d9:Int)-1))) (e6X id kn u r a0 op im g a3 T h)))) fun(m9 p1 e1:Nat)(o6:List IV)=>aM (decide ((x:Int)< (e1:Int))) (aF (mD kn h) id fun f7=>cK 3 f7 2 False fun(n7 o4 e4:Nat)(a4:List IV)=>aC (decide (b6W x) &&decide ((x:Int)< (e4:Int))) (aK .i64 a4 (b6U x) fun e8=>aK .i64 a4 (d8B x) fun f9=>bH 1 a4 (d8A x) fun(p4:Option Nat)(p2 g0:Nat)(h9:List IV)=> ∃(ks i:List Int),(g0=ks.length/\h9=List.map b1T ks)/\(kn=i.length/\g=List.map b1T i)/\ks.length<=1000000000/\aM (decide (Nd.mk e8 f9 ks=Nd.mk op im i)) (Q (b1S x) (mD kn h)) ((d8F h id kn x im op g p) \/d8H h id kn x im op g p))) (aF (mD kn h) id fun f2=>cK 3 f2 2 (aF (b1P kn h) id fun a1=>aC (Nat.ble 3 a1.length) (aF (c7W id kn op im g a1 h) id fun(f5:List IV)=>cK 3 f5 2 (Q sK (c7W id kn op im g a1 h)) fun(o5 m7 d6:Nat)(o3:List IV)=>Q (.int .i64 (wW ((d6:Int)-1))) (c7W id kn op im g a1 h))) fun(y j K:Nat)(a9:List IV)=>dG (mD kn h) y fun(g3:Nat)=>aC (Nat.beq g3 j&&Nat.ble ((K+1)*40) 140737488355328) (aF ((mD kn h).set y (IObj.tip (j+3))) id fun X=>aC (Nat.ble 3 X.length) (aF (e6Y id kn y j K op im g a9 X h) id fun g9=>cK 3 g9 2 (Q sK (e6Y id kn y j K op im g a9 X h)) fun(n1 m0 d4:Nat)(p8:List IV)=>Q (.int .i64 (wW ((d4:Int)-1))) (e6Y id kn y j K op im g a9 X h))))))):=by kernel_rfl
theorem g7B: ∀xs h Q,f5I xs h Q->aU env 77 xs h Q:=by
 intro xs h Q G;unfold f5I at G;split at G
 ·rename_i id op im kn kc;obtain⟨p,hp,G⟩:=G;refine aS (b6S) (g7A id op im kn kc p h Q) ?_;delta d8E d8F d8G d8H d1X d1Y d7X b1P d7Y b1Q mD sK b1R sL c1R sM e6R e6S e6T e6U e6V e6W d7Z e6X e6Y b1S d8A b1T d8B d8C c7P c7Q c7R c7S b6T b6U c7T c7U c7V c7W b6V b6W d8D wW iI;obtain⟨y,ks,a,b,c,d,e,f⟩:=p;obtain⟨K,⟨lv,hg,hl⟩,⟨rfl,rfl⟩,⟨ho,a4⟩,Z,a3⟩:=hp;dsimp only at hg hl ho a4 Z a3⊢;refine aD (fun c0=>⟨.inl ⟨0,rfl,rfl,rfl,rfl,rfl,⟨bY.1 c0,h1N _,fun j D=>by omega⟩,trivial⟩,?_,?_⟩) (fun c0=>aA (by rw [h1S];omega) ⟨.inr ⟨0,rfl,rfl,rfl,(by rw [h1Q,h1W]),(by rw [h1Q,h1W]),⟨h1N _,fun j D=>by omega⟩,trivial⟩,?_,?_⟩)
  ·rintro i _ ⟨h0,hi,D⟩;have a1:ks=[]:=h3X h0;subst a1;dsimp only at hi D;have m:=hg;have gl:=hl;have A:FC id h h:=FC.refl;have r:id<h.next:=h1C K A.1;rcases gl with⟨h1,h2⟩| ⟨io,h1,O,z,u⟩
   ·subst h1 h2;exact aB m (fC rfl (aB m (fC rfl (aB ((aJ r).trans m) (aA rfl (aB aH (dI rfl (G (IntKind.i64.wrap (((1:Nat):Int)-1)) _ (aQ.nil (p:=⟨[],[],a,b,c,d,e,f⟩) r A m rfl (by decide))))))))))
   ·subst h1;refine aB m (dI rfl (dW (fun c1=>?_) (fun c1=>?_)))
    ·have l:i<y.length:=by omega
     have a0:=(Z _ (h1B l)).2;refine aB m (dI rfl (aP (by omega) (a6X l (by rw [h0Z]) ⟨y[i].ks,[],⟨rfl,rfl⟩,⟨rfl,rfl⟩,by omega,dW (fun L=>?_) (fun L=> .inl ⟨i+1,rfl,rfl,(by(try dsimp only);rw [h0X _ (by omega)];rfl),rfl,rfl,⟨rfl,l,?_⟩,by(try dsimp only);omega⟩)⟩)))
     ·exact G _ _ (aQ.old (p:=⟨y,[],a,b,c,d,e,f⟩) (i:=i) A m (.inr ⟨io,rfl,O,z,u⟩) ((h0U l).trans (congrArg some L)) D rfl)
     ·intro j X;rcases h2D j i with q|q
      ·exact D j q
      ·have q2:j=i:=by(try dsimp only at X);omega
       rw [q2,h0U l];exact fun q3=>L (h1M q3)
    ·have a2:i=y.length:=by omega
     have T:(⟨op,im,[]⟩:Nd) ∉y:=fun hm=>by
      obtain⟨j,Y,V⟩:=h4L.1 hm;exact D j (by omega) ((h0U Y).trans (congrArg some V))
     refine aB m (dI rfl (bE O (aA (by simp only [h0Y,bY,h1S,true_and];omega) (aB ((aE (fun q=>u q.symm)).trans m) (aA rfl (aB aH (dI rfl (G _ _ (aQ.new (p:=⟨y,[],a,b,c,d,e,f⟩) r A m rfl O z u T ?_)))))))));show IntKind.i64.wrap (((y.length+1:Nat):Int)-1)=_;rw [h0X _ (by omega)];dsimp only;omega
  ·rintro i _ ⟨hi,D⟩;dsimp only at hi D;have m:(h.push (.tip ks.length)).get id= .cells [a,b,lv,c,d,e,f]:=(aJ K).trans hg;have gl:=hl.push (x:= .tip ks.length);have A:FC id h (h.push (.tip ks.length)):=FC.push K;rw [show h.next+1=(h.push (.tip ks.length)).next from rfl];generalize hgg:h.push (.tip ks.length)=g at m gl A⊢;have r:id<g.next:=h1C K A.1;rcases gl with⟨h1,h2⟩| ⟨io,h1,O,z,u⟩
   ·subst h1 h2;exact aB m (fC rfl (aB m (fC rfl (aB ((aJ r).trans m) (aA rfl (aB aH (dI rfl (G (IntKind.i64.wrap (((1:Nat):Int)-1)) _ (aQ.nil (p:=⟨[],ks,a,b,c,d,e,f⟩) r A m rfl (by decide))))))))))
   ·subst h1;refine aB m (dI rfl (dW (fun c1=>?_) (fun c1=>?_)))
    ·have l:i<y.length:=by omega
     have a0:=(Z _ (h1B l)).2;refine aB m (dI rfl (aP (by omega) (a6X l (by rw [h0Z]) ⟨y[i].ks,ks,⟨rfl,rfl⟩,⟨rfl,rfl⟩,by omega,dW (fun L=>?_) (fun L=> .inr ⟨i+1,rfl,rfl,(by(try dsimp only);rw [h0X _ (by omega)];rfl),rfl,rfl,⟨l,?_⟩,by(try dsimp only);omega⟩)⟩)))
     ·exact G _ _ (aQ.old (p:=⟨y,ks,a,b,c,d,e,f⟩) (i:=i) A m (.inr ⟨io,rfl,O,z,u⟩) ((h0U l).trans (congrArg some L)) D rfl)
     ·intro j X;rcases h2D j i with q|q
      ·exact D j q
      ·have q2:j=i:=by(try dsimp only at X);omega
       rw [q2,h0U l];exact fun q3=>L (h1M q3)
    ·have a2:i=y.length:=by omega
     have T:(⟨op,im,ks⟩:Nd) ∉y:=fun hm=>by
      obtain⟨j,Y,V⟩:=h4L.1 hm;exact D j (by omega) ((h0U Y).trans (congrArg some V))
     refine aB m (dI rfl (bE O (aA (by simp only [h0Y,bY,h1S,true_and];omega) (aB ((aE (fun q=>u q.symm)).trans m) (aA rfl (aB aH (dI rfl (G _ _ (aQ.new (p:=⟨y,ks,a,b,c,d,e,f⟩) r A m rfl O z u T ?_)))))))));show IntKind.i64.wrap (((y.length+1:Nat):Int)-1)=_;rw [h0X _ (by omega)];dsimp only;omega
  ·rintro i _ ⟨h0,hi,D⟩;have a1:ks=[]:=h3X h0;subst a1;dsimp only at hi D;have m:=hg;have gl:=hl;have A:FC id h h:=FC.refl;have r:id<h.next:=h1C K A.1;rcases gl with⟨h1,h2⟩| ⟨io,h1,O,z,u⟩
   ·subst h1 h2;exact aB m (fC rfl (aB m (fC rfl (aB ((aJ r).trans m) (aA rfl (aB aH (dI rfl (G (IntKind.i64.wrap (((1:Nat):Int)-1)) _ (aQ.nil (p:=⟨[],[],a,b,c,d,e,f⟩) r A m rfl (by decide))))))))))
   ·subst h1;refine aB m (dI rfl (dW (fun c1=>?_) (fun c1=>?_)))
    ·have l:i<y.length:=by omega
     have a0:=(Z _ (h1B l)).2;refine aB m (dI rfl (aP (by omega) (a6X l (by rw [h0Z]) ⟨y[i].ks,[],⟨rfl,rfl⟩,⟨rfl,rfl⟩,by omega,dW (fun L=>?_) (fun L=> .inl ⟨i+1,rfl,rfl,(by(try dsimp only);rw [h0X _ (by omega)];rfl),rfl,rfl,⟨rfl,l,?_⟩,by(try dsimp only);omega⟩)⟩)))
     ·exact G _ _ (aQ.old (p:=⟨y,[],a,b,c,d,e,f⟩) (i:=i) A m (.inr ⟨io,rfl,O,z,u⟩) ((h0U l).trans (congrArg some L)) D rfl)
     ·intro j X;rcases h2D j i with q|q
      ·exact D j q
      ·have q2:j=i:=by(try dsimp only at X);omega
       rw [q2,h0U l];exact fun q3=>L (h1M q3)
    ·have a2:i=y.length:=by omega
     have T:(⟨op,im,[]⟩:Nd) ∉y:=fun hm=>by
      obtain⟨j,Y,V⟩:=h4L.1 hm;exact D j (by omega) ((h0U Y).trans (congrArg some V))
     refine aB m (dI rfl (bE O (aA (by simp only [h0Y,bY,h1S,true_and];omega) (aB ((aE (fun q=>u q.symm)).trans m) (aA rfl (aB aH (dI rfl (G _ _ (aQ.new (p:=⟨y,[],a,b,c,d,e,f⟩) r A m rfl O z u T ?_)))))))));show IntKind.i64.wrap (((y.length+1:Nat):Int)-1)=_;rw [h0X _ (by omega)];dsimp only;omega
  ·rintro i _ ⟨hi,D⟩;dsimp only at hi D;have m:(h.push (.tip ks.length)).get id= .cells [a,b,lv,c,d,e,f]:=(aJ K).trans hg;have gl:=hl.push (x:= .tip ks.length);have A:FC id h (h.push (.tip ks.length)):=FC.push K;rw [show h.next+1=(h.push (.tip ks.length)).next from rfl];generalize hgg:h.push (.tip ks.length)=g at m gl A⊢;have r:id<g.next:=h1C K A.1;rcases gl with⟨h1,h2⟩| ⟨io,h1,O,z,u⟩
   ·subst h1 h2;exact aB m (fC rfl (aB m (fC rfl (aB ((aJ r).trans m) (aA rfl (aB aH (dI rfl (G (IntKind.i64.wrap (((1:Nat):Int)-1)) _ (aQ.nil (p:=⟨[],ks,a,b,c,d,e,f⟩) r A m rfl (by decide))))))))))
   ·subst h1;refine aB m (dI rfl (dW (fun c1=>?_) (fun c1=>?_)))
    ·have l:i<y.length:=by omega
     have a0:=(Z _ (h1B l)).2;refine aB m (dI rfl (aP (by omega) (a6X l (by rw [h0Z]) ⟨y[i].ks,ks,⟨rfl,rfl⟩,⟨rfl,rfl⟩,by omega,dW (fun L=>?_) (fun L=> .inr ⟨i+1,rfl,rfl,(by(try dsimp only);rw [h0X _ (by omega)];rfl),rfl,rfl,⟨l,?_⟩,by(try dsimp only);omega⟩)⟩)))
     ·exact G _ _ (aQ.old (p:=⟨y,ks,a,b,c,d,e,f⟩) (i:=i) A m (.inr ⟨io,rfl,O,z,u⟩) ((h0U l).trans (congrArg some L)) D rfl)
     ·intro j X;rcases h2D j i with q|q
      ·exact D j q
      ·have q2:j=i:=by(try dsimp only at X);omega
       rw [q2,h0U l];exact fun q3=>L (h1M q3)
    ·have a2:i=y.length:=by omega
     have T:(⟨op,im,ks⟩:Nd) ∉y:=fun hm=>by
      obtain⟨j,Y,V⟩:=h4L.1 hm;exact D j (by omega) ((h0U Y).trans (congrArg some V))
     refine aB m (dI rfl (bE O (aA (by simp only [h0Y,bY,h1S,true_and];omega) (aB ((aE (fun q=>u q.symm)).trans m) (aA rfl (aB aH (dI rfl (G _ _ (aQ.new (p:=⟨y,ks,a,b,c,d,e,f⟩) r A m rfl O z u T ?_)))))))));show IntKind.i64.wrap (((y.length+1:Nat):Int)-1)=_;rw [h0X _ (by omega)];dsimp only;omega
 ·exact G.elim
def f5J:=bB 77 f5I b1O
theorem e9Z:aT env f5J:=aI g7B (b6S)
def g2I(id:Nat)(s:BSt)(nm:List UInt8)(h:Heap):Inv':=hJ Nat (fun i=>[(0,.v (.ptr id 0)),(1,.v (.str nm)),(5,.v (.int .i64 (i:Int)))]) (fun _=>[]) (fun _=>h) (fun i=>i<=(bN s.f).length/\nm∉ (bN s.f).take i) (fun i=>(bN s.f).length-i)
def f5K(xs:List IV)(h:Heap)(K:KT):Prop:=match xs with
 | [.ptr id 0,.str nm]=> ∃s:BSt,(BH h id s/\nm∈bN s.f)/\∀i:Nat,i< (bN s.f).length->K (.int .i64 (i:Int)) h
 |_=>False
theorem g7C(id:Nat)(s:BSt)(nm:List UInt8)(h:Heap)(Q:KT):dF (aV f5J) env 148 dV (tK 3 (g2I id s nm h)) bT [.ptr id 0,.str nm] h Q=(
 (∃(x:Nat),some (TV.v (.ptr id 0))=some (TV.v (.ptr id 0))/\some (TV.v (.str nm))=some (TV.v (.str nm))/\tI 0=tI (x:Int)/\h=h/\(x<=List.length (bN (BSt.f s))/\¬nm∈List.take x (bN (BSt.f s)))/\True)/\∀(x:Nat)(b:FF),x<=List.length (bN (BSt.f s))/\¬nm∈List.take x (bN (BSt.f s))->aF h id fun r0=>bH 1 r0 3 fun(z:Option Nat)(u m:Nat)(c4:List IV)=>aM (decide ((x:Int)< (m:Int))) (aF h id fun j=>bH 1 j 3 fun(y:Option Nat)(r p:Nat)(l:List IV)=>aC (decide (0<=(x:Int)) &&decide ((x:Int)< (p:Int))) (bZ l ((x:Int).toNat*1) fun(i:List UInt8)=>aM (i==nm) (Q (.int .i64 (x:Int)) h) (∃(g:Nat),some (TV.v (.ptr id 0))=some (TV.v (.ptr id 0))/\some (TV.v (.str nm))=some (TV.v (.str nm))/\tI (wW ((x:Int)+1))=tI (g:Int)/\h=h/\(g<=List.length (bN (BSt.f s))/\¬nm∈List.take g (bN (BSt.f s)))/\List.length (bN (BSt.f s))-g< (bN (BSt.f s)).length-x))) (Q (.int .i64 0) h)):=by kernel_rfl
theorem g7D: ∀xs h Q,f5K xs h Q->aU env 148 xs h Q:=by
 intro xs h Q j;unfold f5K at j;split at j
 ·rename_i id nm;obtain⟨s,⟨r,y⟩,j⟩:=j;refine aS (e9Z) (g7C id s nm h Q) ?_;delta tI wW;obtain⟨u,⟨lv,p,_⟩,_⟩:=r;have z:=xI s.f;refine⟨⟨0,rfl,rfl,rfl,rfl,⟨h1N _,by simp⟩,trivial⟩,?_⟩;rintro i _ ⟨A,m⟩;refine aB p (dY rfl (dW (fun c=>?_) (fun c=>?_)))
  ·have g:i< (bN s.f).length:=by omega
   refine aB p (dY rfl (aP (by omega) (hZ (b:=(bN s.f)[i]) (by rw [h0Z,h1W,h2A,h0U g];rfl) (aD (fun l=>j i g) (fun l=>⟨i+1,rfl,rfl,(by(try dsimp only);rw [h0X _ (by omega)];rfl),rfl,⟨g,?_⟩,by omega⟩)))));rw [beq_eq_false_iff_ne]at l;rw [h1J g,h2S,h2J];exact fun q=>q.elim m fun q=>l q.symm
  ·rw [h1H (by omega)]at m;exact absurd y m
 ·exact j.elim
def f5L:=bB 148 f5K f5J
theorem f0A:aT env f5L:=aI g7D (e9Z)
def f5M(xs:List IV)(h:Heap)(K:KT):Prop:=match xs with
 | [.ptr id 0,.str nm]=> ∃s:BSt,(BH h id s/\qG s.pa s.pf/\nm∈oW)/\∀i:Nat,i<2->K (.int .i64 (i:Int)) h
 |_=>False
theorem g7E(id:Nat)(s:BSt)(nm:List UInt8)(h:Heap)(Q:KT):dF (aV f5L) env 149 (fun k=>if k=3 then 3 else 0) bT bT [.ptr id 0,.str nm] h Q=(
 aF h id fun r0=>bH 2 r0 0 fun(i1:Option Nat)(e2 l3:Nat)(c4:List IV)=>aM (decide (0< (l3:Int))) (aF h id fun Y=>bH 2 Y 0 fun(i6:Option Nat)(e7 T:Nat)(c9:List IV)=>aC (true&&decide (0< (T:Int))) (bZ c9 0 fun(D:List UInt8)=>aM (D==nm) (Q (.int .i64 0) h) (aF h id fun m=>bH 2 m 0 fun(a1:Option Nat)(X u:Nat)(O:List IV)=>aM (decide (1< (u:Int))) (aF h id fun p=>bH 2 p 0 fun(a2:Option Nat)(K g:Nat)(r:List IV)=>aC (true&&decide (1< (g:Int))) (bZ r 2 fun(G:List UInt8)=>aM (G==nm) (Q (.int .i64 1) h) (aF h id fun A=>bH 2 A 0 fun(a0:Option Nat)(V y:Nat)(Z:List IV)=>aM (decide (2< (y:Int))) (aF h id fun l=>bH 2 l 0 fun(a3:Option Nat)(L z:Nat)(j:List IV)=>aC (true&&decide (2< (z:Int))) (bZ j 4 fun(i:List UInt8)=>aM (i==nm) (Q (.int .i64 2) h) False)) (Q (.int .i64 0) h)))) (Q (.int .i64 0) h)))) (Q (.int .i64 0) h)):=by kernel_rfl
theorem g7F: ∀xs h Q,f5M xs h Q->aU env 149 xs h Q:=by
 intro xs h Q g;unfold f5M at g;split at g
 ·rename_i id nm;obtain⟨s,⟨u,l,p⟩,g⟩:=g;refine aS (f0A) (g7E id s nm h Q) ?_;obtain⟨y,⟨lv,i,_⟩,_⟩:=u;obtain⟨r,z,A,G,D,K,_,j,_⟩:=l;have m: ∀o:Nat,s.pa[o]?=(c1A r z)[o]?:=fun o=>by rw [j]
  simp only [oW,h2O,h4G,or_false]at p;refine aB i (dY rfl (bt rfl (aB i (dY rfl (aA rfl (hZ ((m 0).trans rfl) ?_))))));rcases p with rfl|rfl
  ·exact bt rfl (g 0 (by decide))
  ·exact bf rfl (aB i (dY rfl (bt rfl (aB i (dY rfl (aA rfl (hZ ((m 2).trans rfl) (bt rfl (g 1 (by decide))))))))))
 ·exact g.elim
def f5N:=bB 149 f5M f5L
theorem f0B:aT env f5N:=aI g7F (f0A)
def f5O(xs:List IV)(h:Heap)(K:KT):Prop:=match xs with
 | [.ptr id 0,.int .i64 c,.int .i64 a,.int .i64 b]=> ∃(s:BSt)(t:Int),(BH h id s/\GS s/\s.ns.length<99990/\SK s.ns 1 c/\(t=1\/t=2)/\SK s.ns t a/\SK s.ns t b)/\∀(v:Int)(h2:Heap)(g:List Nd),BE h id s h2 g s.st 1->SK g t v->K (.int .i64 v) h2
 |_=>False
theorem g7G(id:Nat)(c a b:Int)(h:Heap)(Q:KT):dF (aV f5N) env 151 dV bT bT [.ptr id 0,.int .i64 c,.int .i64 a,.int .i64 b] h Q=(
 aM (a==b) (Q (.int .i64 a) h) (∃(p:PSt),bI h id p 22 0 3 [iI c,iI a,iI b]/\∀(v:Int)(h2:Heap),aQ h id p 22 0 v h2->Q (.int .i64 v) h2)):=by kernel_rfl
theorem g7H: ∀xs h Q,f5O xs h Q->aU env 151 xs h Q:=by
 intro xs h Q i;unfold f5O at i;split at i
 ·rename_i id c a b;obtain⟨s,t,⟨r,m,A,u,z,l,j⟩,i⟩:=i;refine aS (f0B) (g7G id c a b h Q) ?_;delta iI;refine aD (fun e=>?_) (fun e=>?_)
  ·rw [beq_iff_eq]at e;exact i a h s.ns ((BE.refl r m).le (h1N _)) l
  ·have g:t≠0:=by omega
   refine⟨s.pst [c,a,b],r.pre m ⟨by decide,by decide⟩ (kb3 u.kb l.kb j.kb) (by show 3<=40;decide),fun v h2 p=>?_⟩;obtain⟨x,y⟩:=BE.put (ss:=[1,t,t]) (t:=t) r m p ⟨⟨u,by decide⟩,⟨l,g⟩,⟨j,g⟩,trivial⟩ (by rcases z with rfl|rfl;exact e5V;exact e5W) g ⟨by decide,by decide⟩ ⟨by decide,by decide⟩ (by show 3<=40;decide) (by omega);exact i v h2 _ x y
 ·exact i.elim
def f5P:=bB 151 f5O f5N
theorem f0C:aT env f5P:=aI g7H (f0B)
def f5Q(xs:List IV)(h:Heap)(K:KT):Prop:=match xs with
 | [.ptr id 0,.int .i64 a,.int .i64 i]=> ∃(s:BSt),(BH h id s/\GS s/\s.ns.length<99990/\(0<=a/\a<2)/\SK s.ns 1 i)/\∀(h2:Heap)(j:List Nd)(g:Int),BE h id s h2 j g 3->K (.tuple []) h2
 |_=>False
theorem g7I(id:Nat)(a i:Int)(h:Heap)(Q:KT):dF (aV f5P) env 150 dV bT bT [.ptr id 0,.int .i64 a,.int .i64 i] h Q=(
 aF h id fun r0=>bH 2 r0 0 fun(y:Option Nat)(z r:Nat)(c4:List IV)=>aC (decide (0<=a) &&decide (a< (r:Int))) (aK .i64 c4 (a.toNat*2+1) fun l=> ∃(p:PSt),bI h id p 1 l 0 []/\∀(v:Int)(h2:Heap),aQ h id p 1 l v h2-> ∃(p:PSt),bI h2 id p 19 0 2 [iI i,iI v]/\∀(v:Int)(g:Heap),aQ h2 id p 19 0 v g->aF g id fun u=>aK .i64 u 5 fun m=> ∃(p:PSt),bI g id p 27 2 2 [iI m,iI v]/\∀(v:Int)(h2:Heap),aQ g id p 27 2 v h2->aF h2 id fun j=>aC (Nat.ble 6 j.length) (Q (.tuple []) (h2.set id (IObj.cells (List.take 5 j++ [iI v]++List.drop 6 j)))))):=by kernel_rfl
theorem g7J: ∀xs h Q,f5Q xs h Q->aU env 150 xs h Q:=by
 intro xs h Q u;unfold f5Q at u;split at u
 ·rename_i id a i;obtain⟨s,⟨K,G,hn,ha,Z⟩,u⟩:=u;refine aS (f0C) (g7I id a i h Q) ?_;delta iI;obtain⟨Y,lb,b0,v0,b1,v1,V,D,_⟩:=G.pp;obtain⟨⟨a1,a2,a3,a4⟩,_⟩:=V;obtain⟨lv,T⟩:=(BE.refl K G).get;obtain⟨m,hm,y⟩: ∃m:Int,s.pa[a.toNat*2+1]?=some (.int .i64 m)/\bR m:=by
   have:a=0\/a=1:=by omega
   rcases this with rfl|rfl
   ·exact⟨Y,by rw [D];rfl,by unfold bR;omega⟩
   ·exact⟨lb,by rw [D];rfl,by unfold bR;omega⟩
  refine aB T (dY rfl (aP ha (bV hm ⟨s.pst [],K.pre G ⟨by decide,y⟩ kb0 (by decide),fun v h2 p=>?_⟩)));obtain⟨j,L⟩:=BE.put (ss:=[]) (t:=1) K G p trivial eJ (by decide) ⟨by decide,by decide⟩ ⟨by decide,y⟩ (by decide) (by omega);have r:=Z.mono j.gx.pre;have n1:=j.len;generalize(fY s.ns ⟨1,m,[]⟩).1=ns1 at j L r n1;refine⟨({s with ns:=ns1 } :BSt).pst [i,v],j.bh.pre j.gs ⟨by decide,by decide⟩ (kb2 r.kb L.kb) (by show 2<=40;decide),fun v2 h3 p2=>?_⟩;obtain⟨x2,O⟩:=BE.put (ss:=[1,1]) (t:=1) j.bh j.gs p2 ⟨⟨r,by decide⟩,⟨L,by decide⟩,trivial⟩ (zI (by decide)) (by decide) ⟨by decide,by decide⟩ ⟨by decide,by decide⟩ (by show 2<=40;decide) (by show ns1.length<100000;omega);have g:=j.trans x2;have n2:=g.len;obtain⟨lv2,A⟩:=g.get;have l:=g.gs.sk;generalize(fY ({s with ns:=ns1,st:=s.st } :BSt).ns ⟨19,0,[i,v]⟩).1=ns2 at g O A n2 l;refine aB A (bV rfl ⟨({s with ns:=ns2 } :BSt).pst [s.st,v2],g.bh.pre g.gs ⟨by decide,by decide⟩ (kb2 l.kb O.kb) (by show 2<=40;decide),fun v3 h4 p3=>?_⟩);obtain⟨x3,k3⟩:=BE.put (ss:=[2,1]) (t:=2) g.bh g.gs p3 ⟨⟨l,by decide⟩,⟨O,by decide⟩,trivial⟩ (xJ (by decide)) (by decide) ⟨by decide,by decide⟩ ⟨by decide,by decide⟩ (by show 2<=40;decide) (by show ns2.length<100000;omega);have X:=g.trans x3;obtain⟨a0,z⟩:=X.get;exact aB z (aA rfl (u _ _ _ (X.st k3 z)))
 ·exact u.elim
def f5R:=bB 150 f5Q f5P
theorem f0D:aT env f5R:=aI g7J (f0C)
def d8I(d:Nat)(xs:List IV)(h:Heap)(K:KT):Prop:=match xs with
 | [.ptr id 0,.agg [.int .i64 k,.int .i64 n,.str nm,.int .i64 op,.vslice none 0 m 5 c]]=> ∃(ks:List E)(s:BSt),(m=ks.length/\c=aW ks)/\ExPre h id s d k n nm op ks/\∀(v:Int)(h2:Heap),dR h id s (.mk k n nm op ks) v h2->K (.int .i64 v) h2
 |_=>False
def e6Z(ks:List E):=true&&decide (0< (ks.length:Int))
def c1S(v:Int):=iI v
def f5S(i:Int)(g:List IV):=IObj.cells (List.take 5 g++ [iI i]++List.drop 6 g)
def f5T(i:Int)(g:List IV):=IObj.cells (List.take 5 g++ [iI i]++List.drop 6 g)
def f5U(i:Int)(g:List IV):=IObj.cells (List.take 5 g++ [iI i]++List.drop 6 g)
theorem g7K(L:Nat)(id:Nat)(k n:Int)(nm:List UInt8)(op:Int)(ks:List E)(h:Heap)(Q:KT):dF (aV (bB 79 (d8I L) f5R)) env 79 dV bT bT [.ptr id 0,.agg [.int .i64 k,.int .i64 n,.str nm,.int .i64 op,.vslice none 0 ks.length 5 (aW ks)]] h Q=(
 aM (k==1) (∃(p:PSt),bI h id p 1 n 0 []/\∀(v:Int)(h2:Heap),aQ h id p 1 n v h2->Q (c1S v) h2) (aM (k==2) (aF h id fun r0=>cT 1 r0 4 False fun(i1 o2 l3:Nat)=> ∃(s:BSt),(BH h id s/\List.Mem nm (bN (BSt.f s)))/\∀(i:Nat),i< (bN (BSt.f s)).length->aY h id 4=aY h id 4/\aC (decide (0<=(i:Int)) &&decide ((i:Int)< (l3:Int))) (aF h i1 fun r4=>aK .i64 r4 (o2+(i:Int).toNat*1) fun n5=>Q (.int .i64 n5) h)) (aM (k==3) (aC (e6Z ks) (aK .i64 (aW ks) 0 fun n6=>aK .i64 (aW ks) 1 fun n7=>bZ (aW ks) 2 fun(s8:List UInt8)=>aK .i64 (aW ks) 3 fun n9=>bH 5 (aW ks) 4 fun(e4:Option Nat)(f0 d5:Nat)(d1:List IV)=> ∃(ks:List E),∃(s:BSt),(d5=ks.length/\d1=aW ks)/\ExPre h id s L n6 n7 s8 n9 ks/\∀(v:Int)(h2:Heap),dR h id s (E.mk n6 n7 s8 n9 ks) v h2-> ∃(s:BSt),(BH h2 id s/\qG (BSt.pa s) (BSt.pf s)/\List.Mem nm oW)/\∀(i:Nat),i<2-> ∃(s:BSt),(BH h2 id s/\GS s/\List.length (BSt.ns s)<99990/\(0<=(i:Int)/\(i:Int)<2)/\M10.SK (BSt.ns s) 1 v)/\∀(g:Heap)(z:List Nd)(d6:Int),BE h2 id s g z d6 3->aF g id fun(c2:List IV)=>aK .i64 c2 5 fun b9=> ∃(p:PSt),bI g id p 23 (i:Int) 2 [iI b9,iI v]/\∀(v:Int)(h2:Heap),aQ g id p 23 (i:Int) v h2->Q (c1S v) h2)) (aM (k==5) (aC (e6Z ks) (aK .i64 (aW ks) 0 fun a7=>aK .i64 (aW ks) 1 fun b6=>bZ (aW ks) 2 fun(b1:List UInt8)=>aK .i64 (aW ks) 3 fun b2=>bH 5 (aW ks) 4 fun(e7:Option Nat)(e3 e2:Nat)(d8:List IV)=> ∃(l:List E),∃(s:BSt),(e2=l.length/\d8=aW l)/\ExPre h id s L a7 b6 b1 b2 l/\∀(v:Int)(h2:Heap),dR h id s (E.mk a7 b6 b1 b2 l) v h2->aF h2 id fun b7=>aK .i64 b7 5 fun a6=>aC (true&&decide (1< (ks.length:Int))) (aK .i64 (aW ks) 5 fun V=>aK .i64 (aW ks) 6 fun a5=>bZ (aW ks) 7 fun(a2:List UInt8)=>aK .i64 (aW ks) 8 fun X=>bH 5 (aW ks) 9 fun(f2:Option Nat)(e6 c1:Nat)(b8:List IV)=> ∃(D:List E),∃(s:BSt),(c1=D.length/\b8=aW D)/\ExPre h2 id s L V a5 a2 X D/\∀(m:Int)(g:Heap),dR h2 id s (E.mk V a5 a2 X D) m g->aF g id fun d3=>aK .i64 d3 5 fun e1=>aF g id fun O=>aC (Nat.ble 6 O.length) (aC (true&&decide (2< (ks.length:Int))) (aK .i64 (aW ks) 10 fun b5=>aK .i64 (aW ks) 11 fun Z=>bZ (aW ks) 12 fun(b3:List UInt8)=>aK .i64 (aW ks) 13 fun b0=>bH 5 (aW ks) 14 fun(e9:Option Nat)(f3 d9:Nat)(c0:List IV)=> ∃(ks:List E),∃(s:BSt),(d9=ks.length/\c0=aW ks)/\ExPre (g.set id (f5S a6 O)) id s L b5 Z b3 b0 ks/\∀(y:Int)(h2:Heap),dR (g.set id (f5S a6 O)) id s (E.mk b5 Z b3 b0 ks) y h2-> ∃(s:BSt),∃(t:Int),(BH h2 id s/\GS s/\List.length (BSt.ns s)<99990/\M10.SK (BSt.ns s) 1 v/\(t=1\/t=2)/\M10.SK (BSt.ns s) t m/\M10.SK (BSt.ns s) t y)/\∀(u:Int)(j:Heap)(z:List Nd),BE h2 id s j z (BSt.st s) 1->M10.SK z t u->aF j id fun d2=>aK .i64 d2 5 fun c9=> ∃(s:BSt),∃(t:Int),(BH j id s/\GS s/\List.length (BSt.ns s)<99990/\M10.SK (BSt.ns s) 1 v/\(t=1\/t=2)/\M10.SK (BSt.ns s) t e1/\M10.SK (BSt.ns s) t c9)/\∀(v:Int)(h2:Heap)(z:List Nd),BE j id s h2 z (BSt.st s) 1->M10.SK z t v->aF h2 id fun T=>aC (Nat.ble 6 T.length) (Q (.int .i64 u) (h2.set id (IObj.cells (List.take 5 T++ [iI v]++List.drop 6 T))))))))) (aC (e6Z ks) (aK .i64 (aW ks) 0 fun a0=>aK .i64 (aW ks) 1 fun a8=>bZ (aW ks) 2 fun(a1:List UInt8)=>aK .i64 (aW ks) 3 fun a3=>bH 5 (aW ks) 4 fun(e5:Option Nat)(f1 c8:Nat)(d7:List IV)=> ∃(l:List E),∃(s:BSt),(c8=l.length/\d7=aW l)/\ExPre h id s L a0 a8 a1 a3 l/\∀(v:Int)(h2:Heap),dR h id s (E.mk a0 a8 a1 a3 l) v h2->aM ((ks.length:Int)==1) (∃(p:PSt),bI h2 id p op 0 1 [iI v]/\∀(v:Int)(g:Heap),aQ h2 id p op 0 v g->Q (c1S v) g) (aC (true&&decide ((1:Int)< (ks.length:Int))) (aK .i64 (aW ks) 5 fun Y=>aK .i64 (aW ks) 6 fun b4=>bZ (aW ks) 7 fun(a9:List UInt8)=>aK .i64 (aW ks) 8 fun a4=>bH 5 (aW ks) 9 fun(f4:Option Nat)(e8 c7:Nat)(d4:List IV)=> ∃(ks:List E),∃(s:BSt),(c7=ks.length/\d4=aW ks)/\ExPre h2 id s L Y b4 a9 a4 ks/\∀(m:Int)(g:Heap),dR h2 id s (E.mk Y b4 a9 a4 ks) m g->aM (op==7) (∃(p:PSt),bI g id p 1 0 0 []/\∀(y:Int)(h2:Heap),aQ g id p 1 0 y h2-> ∃(p:PSt),bI h2 id p 16 0 2 [iI m,iI y]/\∀(u:Int)(j:Heap),aQ h2 id p 16 0 u j->aF j id fun(c5:List IV)=>aK .i64 c5 5 fun c3=> ∃(p:PSt),bI j id p 27 1 2 [iI c3,iI u]/\∀(A:Int)(h2:Heap),aQ j id p 27 1 A h2->aF h2 id fun G=>aC (Nat.ble 6 G.length) (∃(p:PSt),bI (h2.set id (f5T A G)) id p op 0 2 [iI v,iI m]/\∀(v:Int)(r:Heap),aQ (h2.set id (f5T A G)) id p op 0 v r->Q (c1S v) r)) (aM (op==8) (∃(p:PSt),bI g id p 1 0 0 []/\∀(y:Int)(h2:Heap),aQ g id p 1 0 y h2-> ∃(p:PSt),bI h2 id p 16 0 2 [iI m,iI y]/\∀(u:Int)(j:Heap),aQ h2 id p 16 0 u j->aF j id fun c6=>aK .i64 c6 5 fun d0=> ∃(p:PSt),bI j id p 27 1 2 [iI d0,iI u]/\∀(A:Int)(h2:Heap),aQ j id p 27 1 A h2->aF h2 id fun(K:List IV)=>aC (Nat.ble 6 K.length) (∃(p:PSt),bI (h2.set id (f5U A K)) id p op 0 2 [iI v,iI m]/\∀(v:Int)(r:Heap),aQ (h2.set id (f5U A K)) id p op 0 v r->Q (c1S v) r)) (∃(p:PSt),bI g id p op 0 2 [iI v,iI m]/\∀(v:Int)(h2:Heap),aQ g id p op 0 v h2->Q (c1S v) h2)))))))))):=by kernel_rfl
theorem g7L: ∀d xs h Q,d8I d xs h Q->aU env 79 xs h Q:=by
 intro d
 induction d with
 |zero=>
  intro xs h Q L;unfold d8I at L;split at L
  ·rename_i id k n nm op m c;obtain⟨ks,s,⟨rfl,rfl⟩,hx,L⟩:=L;have hz:=hx.dp;omega
  ·exact L.elim
 |succ dd ih=>
  intro xs h Q L;unfold d8I at L;split at L
  ·rename_i id k n nm op m c;obtain⟨ks,s,⟨rfl,rfl⟩,hx,L⟩:=L;refine aS (aI ih (f0D)) (g7K dd id k n nm op ks h Q) ?_;delta e6Z c1S f5S f5T f5U iI;obtain⟨hb,hg,hw,hd,hc⟩:=hx;have h5:=hg.hn;have hn:a6Y s.f k n nm op ks.length:=hw.1;have a1:Es.wf s.f ks:=hw.2;obtain⟨lv,d7⟩:=(BE.refl hb hg).get;unfold a6Y at hn;rcases hn with⟨rfl,rfl,rfl,hl,hi⟩| ⟨rfl,rfl,rfl,hl,c0⟩| ⟨rfl,rfl,rfl,hl,c0⟩| ⟨rfl,rfl,rfl,ho⟩| ⟨rfl,rfl,rfl,rfl,hl⟩
   ·refine bt rfl ⟨s.pst [],hb.pre hg ⟨by decide,hi⟩ kb0 (by decide),fun v h2 p=>?_⟩;have hE:E.cost (.mk 1 n [] 0 ks)=4+Es.cost ks:=E.cost4 (by decide);obtain⟨x1,l⟩:=BE.put (ss:=[]) (t:=1) hb hg p trivial eJ (by decide) ⟨by decide,by decide⟩ ⟨by decide,hi⟩ (by decide) (by omega);exact L v h2 ⟨_,_,x1.le (by omega),l⟩
   ·have e8:=hb;obtain⟨_,_,b4,b5,b6⟩:=e8;refine bf rfl (bt rfl (aB d7 (cZ rfl ⟨s,⟨hb,c0⟩,fun i hi=>⟨rfl,?_⟩⟩)));have d2:i<s.vs.length:=by rw [hg.vl];exact hi
    refine aP (by dsimp only;omega) (aB b6 (bV (n:=s.vs[i]) (by rw [h1Q,h0Z,h1W,h2A,h0U d2];rfl) (L _ _ ⟨s.ns,s.st,(BE.refl hb hg).le (h1N _),hg.av _ (h1B d2)⟩)))
   ·obtain⟨e1,rfl⟩: ∃e,ks=[e]:=by
     match ks,hl with
     | [e],_=>exact⟨e,rfl⟩
    obtain⟨l,u,z,r,j⟩:=e1;have hE:E.cost (.mk 3 0 nm 0 [E.mk l u z r j])=4+Es.cost [E.mk l u z r j]:=E.cost4 (by decide);have a2:Es.cost [E.mk l u z r j]=E.cost (E.mk l u z r j):=by simp only [Es.cost];omega
    have c6:1+Es.dp j<=Es.dp [E.mk l u z r j]:=Es.dp_mem (e:=E.mk l u z r j) h2C;refine bf rfl (bf rfl (bt rfl (aA rfl (bV rfl (bV rfl (hZ rfl (bV rfl (dY rfl ⟨j,s,⟨rfl,rfl⟩,⟨hb,hg,a1.1,by omega,by omega⟩,fun v h2 p=>?_⟩))))))));obtain⟨T,a4,A,kA⟩:=p;have nA:=A.len;refine⟨_,⟨A.bh,A.gs.pp,c0⟩,fun a ha=>⟨_,⟨A.bh,A.gs,by show T.length<99990;omega,by omega,kA⟩,fun h3 K b8 xB=>?_⟩⟩;have y:=A.trans xB;have nB:=y.len;obtain⟨d1,a5⟩:=y.get;have a8:=y.gs.sk;have kB:=kA.mono xB.gx.pre;refine aB a5 (bV rfl ⟨({s with ns:=K,st:=b8 } :BSt).pst [b8,v],y.bh.pre y.gs ⟨by decide,by unfold bR;omega⟩ (kb2 a8.kb kB.kb) (by show 2<=40;decide),fun v2 h4 p2=>?_⟩);obtain⟨x2,V⟩:=BE.put (ss:=[2,1]) (t:=1) y.bh y.gs p2 ⟨⟨a8,by decide⟩,⟨kB,by decide⟩,trivial⟩ (e5X (by omega)) (by decide) ⟨by decide,by decide⟩ ⟨by decide,by unfold bR;omega⟩ (by show 2<=40;decide) (by show K.length<100000;omega);exact L _ _ ⟨_,_,(y.trans x2).le (by omega),V⟩
   ·have hl:ks.length=2\/ks.length=1:=by omega
    rcases hl with hl|hl
    ·obtain⟨e1,e2,rfl⟩: ∃e f,ks=[e,f]:=by
      match ks,hl with
      | [e,f],_=>exact⟨e,f,rfl⟩
     obtain⟨l,u,z,r,j⟩:=e1;obtain⟨V,Z,Y,X,G⟩:=e2;have c8:4<=op/\op<=18:=by
      rcases ho with h|h
      ·exact h.2
      ·exact absurd h.1 (by simp)
     have hE:E.cost (.mk 4 0 [] op [E.mk l u z r j,E.mk V Z Y X G])=4+Es.cost [E.mk l u z r j,E.mk V Z Y X G]:=E.cost4 (by decide);have a2:Es.cost [E.mk l u z r j,E.mk V Z Y X G]=E.cost (E.mk l u z r j)+E.cost (E.mk V Z Y X G):=by simp only [Es.cost];omega
     have c6:1+Es.dp j<=Es.dp [E.mk l u z r j,E.mk V Z Y X G]:=Es.dp_mem (e:=E.mk l u z r j) h2C;have c7:1+Es.dp G<=Es.dp [E.mk l u z r j,E.mk V Z Y X G]:=Es.dp_mem (e:=E.mk V Z Y X G) (h2N _ h2C);refine bf rfl (bf rfl (bf rfl (bf rfl (aA rfl (bV rfl (bV rfl (hZ rfl (bV rfl (dY rfl ⟨j,s,⟨rfl,rfl⟩,⟨hb,hg,a1.1,by omega,by omega⟩,fun v h2 p=>?_⟩)))))))));obtain⟨T,a4,A,kA⟩:=p;have nA:=A.len;refine bf rfl (aA rfl (bV rfl (bV rfl (hZ rfl (bV rfl (dY rfl ⟨G,({s with ns:=T,st:=a4 } :BSt),⟨rfl,rfl⟩,⟨A.bh,A.gs,a1.2.1,by omega,by show T.length+_<=90000;omega⟩,fun v2 h3 p=>?_⟩))))));obtain⟨K,b8,xB,kB⟩:=p;have y:=A.trans xB;have nB:=y.len;obtain⟨d1,a5⟩:=y.get;have a8:=y.gs.sk;have a3:=kA.mono xB.gx.pre;have ob:bR op:=by unfold bR;omega
     refine aD (fun c=>?_) (fun _=>aD (fun c=>?_) (fun _=>?_))
     ·refine⟨_,y.bh.pre y.gs ⟨by decide,by decide⟩ (kb0) (by show 0<=40;decide),fun v3 h4 p=>?_⟩;obtain⟨b7,x3,k3⟩:=BE.putE (ss:=[]) (t:=1) y.bh y.gs p (trivial) (eJ) (by decide) ⟨by decide,by decide⟩ ⟨by decide,by decide⟩ (by show 0<=40;decide) (by show K.length<100000;omega);have O:=y.trans x3;have d6:=O.len;have c3:=a3.mono x3.gx.pre;have a0:=kB.mono x3.gx.pre;refine⟨_,O.bh.pre O.gs ⟨by decide,by decide⟩ (kb2 a0.kb k3.kb) (by show 2<=40;decide),fun v4 h5 p=>?_⟩;obtain⟨a6,x4,k4⟩:=BE.putE (ss:=[1,1]) (t:=1) O.bh O.gs p (⟨⟨a0,by decide⟩,⟨k3,by decide⟩,trivial⟩) (zI (by decide)) (by decide) ⟨by decide,by decide⟩ ⟨by decide,by decide⟩ (by show 2<=40;decide) (by show b7.length<100000;omega);have D:=O.trans x4;have d5:=D.len;have c1:=c3.mono x4.gx.pre;have b9:=a0.mono x4.gx.pre;have a7:=D.gs.sk;obtain⟨e6,c2⟩:=D.get;refine aB c2 (bV rfl ?_);refine⟨_,D.bh.pre D.gs ⟨by decide,by decide⟩ (kb2 a7.kb k4.kb) (by show 2<=40;decide),fun v5 h6 p=>?_⟩;obtain⟨b2,x5,k5⟩:=BE.putE (ss:=[2,1]) (t:=2) D.bh D.gs p (⟨⟨a7,by decide⟩,⟨k4,by decide⟩,trivial⟩) (xJ (by decide)) (by decide) ⟨by decide,by decide⟩ ⟨by decide,by decide⟩ (by show 2<=40;decide) (by show a6.length<100000;omega);have y5:=D.trans x5;have d9:=y5.len;have a9:=c1.mono x5.gx.pre;have b1:=b9.mono x5.gx.pre;obtain⟨e7,b0⟩:=y5.get;refine aB b0 (aA rfl ?_);have y6:=y5.st k5 b0;refine⟨_,y6.bh.pre y6.gs ⟨ob,by decide⟩ (kb2 a9.kb b1.kb) (by show 2<=40;decide),fun v7 h8 p=>?_⟩;obtain⟨b3,x7,k7⟩:=BE.putE (ss:=[1,1]) (t:=1) y6.bh y6.gs p (⟨⟨a9,by decide⟩,⟨b1,by decide⟩,trivial⟩) (zI (by omega)) (by decide) ⟨by omega,by omega⟩ ⟨ob,by decide⟩ (by show 2<=40;decide) (by show b2.length<100000;omega);have y7:=y6.trans x7;have c5:=y7.len;exact L _ _ ⟨_,_,y7.le (by omega),k7⟩
     ·refine⟨_,y.bh.pre y.gs ⟨by decide,by decide⟩ (kb0) (by show 0<=40;decide),fun v3 h4 p=>?_⟩;obtain⟨b7,x3,k3⟩:=BE.putE (ss:=[]) (t:=1) y.bh y.gs p (trivial) (eJ) (by decide) ⟨by decide,by decide⟩ ⟨by decide,by decide⟩ (by show 0<=40;decide) (by show K.length<100000;omega);have O:=y.trans x3;have d6:=O.len;have c3:=a3.mono x3.gx.pre;have a0:=kB.mono x3.gx.pre;refine⟨_,O.bh.pre O.gs ⟨by decide,by decide⟩ (kb2 a0.kb k3.kb) (by show 2<=40;decide),fun v4 h5 p=>?_⟩;obtain⟨a6,x4,k4⟩:=BE.putE (ss:=[1,1]) (t:=1) O.bh O.gs p (⟨⟨a0,by decide⟩,⟨k3,by decide⟩,trivial⟩) (zI (by decide)) (by decide) ⟨by decide,by decide⟩ ⟨by decide,by decide⟩ (by show 2<=40;decide) (by show b7.length<100000;omega);have D:=O.trans x4;have d5:=D.len;have c1:=c3.mono x4.gx.pre;have b9:=a0.mono x4.gx.pre;have a7:=D.gs.sk;obtain⟨e6,c2⟩:=D.get;refine aB c2 (bV rfl ?_);refine⟨_,D.bh.pre D.gs ⟨by decide,by decide⟩ (kb2 a7.kb k4.kb) (by show 2<=40;decide),fun v5 h6 p=>?_⟩;obtain⟨b2,x5,k5⟩:=BE.putE (ss:=[2,1]) (t:=2) D.bh D.gs p (⟨⟨a7,by decide⟩,⟨k4,by decide⟩,trivial⟩) (xJ (by decide)) (by decide) ⟨by decide,by decide⟩ ⟨by decide,by decide⟩ (by show 2<=40;decide) (by show a6.length<100000;omega);have y5:=D.trans x5;have d9:=y5.len;have a9:=c1.mono x5.gx.pre;have b1:=b9.mono x5.gx.pre;obtain⟨e7,b0⟩:=y5.get;refine aB b0 (aA rfl ?_);have y6:=y5.st k5 b0;refine⟨_,y6.bh.pre y6.gs ⟨ob,by decide⟩ (kb2 a9.kb b1.kb) (by show 2<=40;decide),fun v7 h8 p=>?_⟩;obtain⟨b3,x7,k7⟩:=BE.putE (ss:=[1,1]) (t:=1) y6.bh y6.gs p (⟨⟨a9,by decide⟩,⟨b1,by decide⟩,trivial⟩) (zI (by omega)) (by decide) ⟨by omega,by omega⟩ ⟨ob,by decide⟩ (by show 2<=40;decide) (by show b2.length<100000;omega);have y7:=y6.trans x7;have c5:=y7.len;exact L _ _ ⟨_,_,y7.le (by omega),k7⟩
     ·refine⟨_,y.bh.pre y.gs ⟨ob,by decide⟩ (kb2 a3.kb kB.kb) (by show 2<=40;decide),fun v7 h8 p=>?_⟩;obtain⟨b3,x7,k7⟩:=BE.putE (ss:=[1,1]) (t:=1) y.bh y.gs p (⟨⟨a3,by decide⟩,⟨kB,by decide⟩,trivial⟩) (zI (by omega)) (by decide) ⟨by omega,by omega⟩ ⟨ob,by decide⟩ (by show 2<=40;decide) (by show K.length<100000;omega);have y7:=y.trans x7;have c5:=y7.len;exact L _ _ ⟨_,_,y7.le (by omega),k7⟩
    ·obtain⟨e1,rfl⟩: ∃e,ks=[e]:=by
      match ks,hl with
      | [e],_=>exact⟨e,rfl⟩
     obtain⟨l,u,z,r,j⟩:=e1;have c8:op=20\/op=21:=by
      rcases ho with h|h
      ·exact absurd h.1 (by simp)
      ·omega
     have hE:E.cost (.mk 4 0 [] op [E.mk l u z r j])=4+Es.cost [E.mk l u z r j]:=E.cost4 (by decide);have a2:Es.cost [E.mk l u z r j]=E.cost (E.mk l u z r j):=by simp only [Es.cost];omega
     have c6:1+Es.dp j<=Es.dp [E.mk l u z r j]:=Es.dp_mem (e:=E.mk l u z r j) h2C;have ob:bR op:=by unfold bR;omega
     refine bf rfl (bf rfl (bf rfl (bf rfl (aA rfl (bV rfl (bV rfl (hZ rfl (bV rfl (dY rfl ⟨j,s,⟨rfl,rfl⟩,⟨hb,hg,a1.1,by omega,by omega⟩,fun v h2 p=>?_⟩)))))))));obtain⟨T,a4,A,kA⟩:=p;have nA:=A.len;refine bt rfl ?_;refine⟨_,A.bh.pre A.gs ⟨ob,by decide⟩ (kb1 kA.kb) (by show 1<=40;decide),fun v7 h8 p=>?_⟩;obtain⟨b3,x7,k7⟩:=BE.putE (ss:=[1]) (t:=1) A.bh A.gs p (⟨⟨kA,by decide⟩,trivial⟩) (g1C c8) (by decide) ⟨by omega,by omega⟩ ⟨ob,by decide⟩ (by show 1<=40;decide) (by show T.length<100000;omega);have y7:=A.trans x7;have c5:=y7.len;exact L _ _ ⟨_,_,y7.le (by omega),k7⟩
   ·obtain⟨e1,e2,e3,rfl⟩: ∃e f g,ks=[e,f,g]:=by
     match ks,hl with
     | [e,f,g],_=>exact⟨e,f,g,rfl⟩
    obtain⟨l,u,z,r,j⟩:=e1;obtain⟨V,Z,Y,X,G⟩:=e2;obtain⟨k3,n3,m3,o3,q3⟩:=e3;have hE:E.cost (.mk 5 0 [] 0 [E.mk l u z r j,E.mk V Z Y X G,E.mk k3 n3 m3 o3 q3])=4+Es.cost [E.mk l u z r j,E.mk V Z Y X G,E.mk k3 n3 m3 o3 q3]:=E.cost4 (by decide);have a2:Es.cost [E.mk l u z r j,E.mk V Z Y X G,E.mk k3 n3 m3 o3 q3]=E.cost (E.mk l u z r j)+E.cost (E.mk V Z Y X G)+E.cost (E.mk k3 n3 m3 o3 q3):=by simp only [Es.cost];omega
    have c6:1+Es.dp j<=Es.dp [E.mk l u z r j,E.mk V Z Y X G,E.mk k3 n3 m3 o3 q3]:=Es.dp_mem (e:=E.mk l u z r j) h2C;have c7:1+Es.dp G<=Es.dp [E.mk l u z r j,E.mk V Z Y X G,E.mk k3 n3 m3 o3 q3]:=Es.dp_mem (e:=E.mk V Z Y X G) (h2N _ h2C);have f0:1+Es.dp q3<=Es.dp [E.mk l u z r j,E.mk V Z Y X G,E.mk k3 n3 m3 o3 q3]:=Es.dp_mem (e:=E.mk k3 n3 m3 o3 q3) (h2N _ (h2N _ h2C));refine bf rfl (bf rfl (bf rfl (bt rfl (aA rfl (bV rfl (bV rfl (hZ rfl (bV rfl (dY rfl ⟨j,s,⟨rfl,rfl⟩,⟨hb,hg,a1.1,by omega,by omega⟩,fun v h2 p=>?_⟩)))))))));obtain⟨T,a4,A,kA⟩:=p;have nA:=A.len;obtain⟨f1,d8⟩:=A.get;have e9:=A.gs.sk;refine aB d8 (bV rfl (aA rfl (bV rfl (bV rfl (hZ rfl (bV rfl (dY rfl ⟨G,({s with ns:=T,st:=a4 } :BSt),⟨rfl,rfl⟩,⟨A.bh,A.gs,a1.2.1,by omega,by show T.length+_<=90000;omega⟩,fun v2 h3 p=>?_⟩)))))));obtain⟨K,b8,xB,kB⟩:=p;have y:=A.trans xB;have nB:=y.len;obtain⟨d1,a5⟩:=y.get;have a8:=y.gs.sk;have a3:=kA.mono xB.gx.pre;have y2:=y.st (e9.mono xB.gx.pre) a5;refine aB a5 (bV rfl (aB a5 (aA rfl (aA rfl (bV rfl (bV rfl (hZ rfl (bV rfl (dY rfl ⟨q3,({s with ns:=K,st:=a4 } :BSt),⟨rfl,rfl⟩,⟨y2.bh,y2.gs,a1.2.2.1,by omega,by show K.length+_<=90000;omega⟩,fun v3 h4 p=>?_⟩)))))))));obtain⟨c9,d4,xC,kC⟩:=p;have O:=y2.trans xC;have nC:=O.len;have e4:=O.gs.sk;have pC:=xC.gx.pre;refine⟨({s with ns:=c9,st:=d4 } :BSt),1,⟨O.bh,O.gs,by show c9.length<99990;omega,a3.mono pC,.inl rfl,kB.mono pC,kC⟩,fun v4 h5 d3 xD kD=>?_⟩;have D:=O.trans xD;have nD:=D.len;obtain⟨f2,e5⟩:=D.get;have pD:=xD.gx.pre;refine aB e5 (bV rfl ⟨({s with ns:=d3,st:=d4 } :BSt),2,⟨D.bh,D.gs,by show d3.length<99990;omega,(a3.mono pC).mono pD,.inr rfl,(a8.mono pC).mono pD,e4.mono pD⟩,fun v5 h6 f4 xE kE=>?_⟩);have y5:=D.trans xE;obtain⟨f3,d0⟩:=y5.get;exact aB d0 (aA rfl (L _ _ ⟨_,_,(y5.st kE d0).le (by omega),kD.mono xE.gx.pre⟩))
  ·exact L.elim
def f5V:=bB 79 (fun xs h K=> ∃d,d8I d xs h K) f5R
theorem f0E:aT env f5V:=aI (fun xs h Q g=>g.elim fun d g=>g7L d xs h Q g) (f0D)
end Go.Proofs.YtkonebkblgemkaaGreat
end
end
