/-
  Texts of this proof, one after the other.
  Conditions: none.
-/
import Derived.Test.YtkonebkblgemkaaGreatZ11
set_option linter.unusedVariables false
set_option linter.unusedSimpArgs false
set_option maxRecDepth 100000
set_option maxHeartbeats 4000000
noncomputable section
section
namespace Go.Proofs.YtkonebkblgemkaaGreat
open Go.Pv Go.M15 Go.M10
def c6Y(xs:List IV)(h:Heap)(K:KT):Prop:=match xs with
 | [.int .i64 n,.int .i64 m]=>(0<m/\m<4611686018427387904)/\K (.int .i64 (n%m)) h
 |_=>False
theorem g1K(n m:Int)(h:Heap)(Q:KT):dF (aV noC) env 12 dV bT bT [.int .i64 n,.int .i64 m] h Q=(
 aC (!m==0) (aM (decide (Int.tmod n m<0)) (Q (.int .i64 (wW (Int.tmod n m+m))) h) (Q (.int .i64 (Int.tmod n m)) h))):=by kernel_rfl
theorem e9E: ∀xs h Q,c6Y xs h Q->aU env 12 xs h Q:=by
 intro xs h Q hk;unfold c6Y at hk;split at hk
 ·rename_i n m;refine aS (rW env) (g1K n m h Q) ?_;delta wW;obtain⟨hm,hk⟩:=hk;have h1:=h8R n (Int.dvd_refl m);have ht:=Go.M13.a2X n m hm.1;refine aA (by simp;omega) (aD (fun hc=>cO hk ?_) (fun hc=>cO hk ?_))
  ·simp only [decide_eq_true_eq]at hc;rw [h0X _ (by omega)];congr 1;omega
  ·simp only [decide_eq_false_iff_not]at hc;congr 1;omega
 ·exact hk.elim
def d5W:=bB 12 c6Y noC
theorem d5X:aT env d5W:=aI e9E (rW env)
def c6Z(xs:List IV)(h:Heap)(K:KT):Prop:=match xs with
 | [.int .i64 n,.int .i64 raw]=>bR raw/\∀w:Int,bR w->K (.int .i64 w) h
 |_=>False
theorem g1L(n raw:Int)(h:Heap)(Q:KT):dF (aV d5W) env 35 dV bT bT [.int .i64 n,.int .i64 raw] h Q=(
 ((0:Int)<24/\(24:Int)<4611686018427387904)/\aM (decide (n% (24:Int)<10)) (aC (decide (0<=n% (24:Int)) &&decide (n% (24:Int)<10)) (aK .i64 [iI 0,iI 1,iI (-1),iI 2,iI (-9223372036854775808),iI 9223372036854775807,iI 4294967296,iI (-2147483648),iI 63,iI 64] ((n% (24:Int)).toNat*1) fun n0=>Q (.int .i64 n0) h)) (aM (decide (n% (24:Int)<22)) (((0:Int)<17/\(17:Int)<4611686018427387904)/\Q (.int .i64 (wW (wW (Int.tdiv n (24:Int))% (17:Int)-6))) h) (Q (.int .i64 raw) h))):=by kernel_rfl
theorem e9F: ∀xs h Q,c6Z xs h Q->aU env 35 xs h Q:=by
 intro xs h Q hk;unfold c6Z at hk;split at hk
 ·rename_i n raw;refine aS (d5X) (g1L n raw h Q) ?_;delta wW iI;obtain⟨hr,hk⟩:=hk;refine And.intro (by omega) (aD (fun hc=>?_) (fun hc=>aD (fun hd=>And.intro (by omega) (hk _ ?_)) (fun hd=>hk _ hr)))
  ·rw [decide_eq_true_eq]at hc;refine aA (by simp;omega) ?_;rw [h1W];show aK .i64 (Go.M13.c5X.map (IV.int .i64)) _ _;have hl:(n%24).toNat<Go.M13.c5X.length:=by have:Go.M13.c5X.length=10:=rfl;omega
   refine gH hl (hk _ ?_);have ha: ∀x∈Go.M13.c5X,bR x:=by decide
   exact ha _ (h1B hl)
  ·have:=h0X (IntKind.i64.wrap (n.tdiv 24)%17-6) (by omega);rw [this];unfold bR
   omega
 ·exact hk.elim
def d5Y:=bB 35 c6Z d5W
theorem d5Z:aT env d5Y:=aI e9F (d5X)
def c1N(xs:List IV)(h:Heap)(K:KT):Prop:=match xs with
 | [.ptr id 0]=> ∃(r:Nat)(w:Int),RN h id r w/\∀(n:Int)(h2:Heap),bR n->(r=0->n=0)->RN h2 id (r-1) w->HF id h h2->K (.int .i64 n) h2
 |_=>False
theorem f3M(id:Nat)(h:Heap)(Q:KT):dF (aV d5Y) env 39 dV bT bT [.ptr id 0] h Q=(
 aF h id fun r0=>bH 1 r0 0 fun(i1:Option Nat)(e2 l3:Nat)(c4:List IV)=>aM ((↑l3:Int)==0) (Q (.int .i64 0) h) (aF h id fun r5=>bH 1 r5 0 fun(i6:Option Nat)(e7 l8:Nat)(c9:List IV)=>aC (true&&decide (0< (↑l8:Int))) (aK .i64 c9 0 fun n10=>aF h id fun r11=>bH 1 r11 0 fun(i12:Option Nat)(e13 l14:Nat)(c15:List IV)=>aC (true&& (decide (1<=(↑l14:Int)) &&decide ((↑l14:Int)<=(↑l14:Int)))) (aF h id fun r16=>aC (Nat.ble 1 r16.length) (Q (.int .i64 n10) (h.set id (IObj.cells (IV.vslice i12 (e13- (l14- (↑l14:Int).toNat)*1) ((↑l14:Int).toNat-1) 1 (List.take (((↑l14:Int).toNat-1)*1) (List.drop 1 c15))::List.drop 1 r16)))))))):=by kernel_rfl
theorem f3N: ∀xs h Q,c1N xs h Q->aU env 39 xs h Q:=by
 intro xs h Q hk;unfold c1N at hk;split at hk
 ·rename_i id;obtain⟨r,w,⟨hlt,io,e,l,hb,hlr,hg⟩,hk⟩:=hk;refine aS (d5Z) (f3M id h Q) ?_;refine aB hg (f2Q ?_);refine aD (fun c=>hk 0 h (by unfold bR;omega) (fun _=>rfl) ?_ HF.refl) (fun c=>aB hg (f2Q ?_))
  ·have h0:l.length=0:=by simpa using c
   have h1:r=0:=by omega
   subst h1;exact⟨hlt,io,e,l,hb,hlr,hg⟩
  have hl:0<l.length:=by
   simp at c;exact Nat.pos_of_ne_zero (by simpa using c)
  refine aA (by simp;omega) (gH (i:=0) hl (aB hg (f2Q (aA (by simp;omega) (aB hg (aA (by simp) ?_))))));refine hk _ _ (hb _ (h1B hl)) (fun q=>by omega) ⟨hlt,io,e- (l.length- ((l.length:Int)).toNat)*1,l.drop 1,fun x hx=>hb x (List.mem_of_mem_drop hx),by rw [h5N];omega,?_⟩ HF.set;refine(aH (h:=h)).trans ?_;simp;exact h1H (by simp)
 ·exact hk.elim
def c1O:=bB 39 c1N d5Y
theorem c7A:aT env c1O:=aI f3N (d5Z)
def f3O(xs:List IV)(h:Heap)(K:KT):Prop:=match xs with
 | [.int .i64 f]=>(f=0\/f=1)/\K (.vslice none 0 (bN f).length 1 ((bN f).map IV.str)) h
 |_=>False
theorem g5X(f:Int)(h:Heap)(Q:KT):dF (aV c1O) env 153 dV bT bT [.int .i64 f] h Q=(
 aM (f==0) (Q (.vslice none 0 4 1 [IV.str [120],IV.str [121],IV.str [105],IV.str [106]]) h) (Q (.vslice none 0 2 1 [IV.str [110],IV.str [105]]) h)):=by kernel_rfl
theorem g5Y: ∀xs h Q,f3O xs h Q->aU env 153 xs h Q:=by
 intro xs h Q hk;unfold f3O at hk;split at hk
 ·rename_i f;refine aS (c7A) (g5X f h Q) ?_;obtain⟨hf,hk⟩:=hk;rcases hf with rfl|rfl
  ·exact aD (fun _=>aA rfl hk) (fun c=>by cases c)
  ·exact aD (fun c=>by cases c) (fun _=>aA rfl hk)
 ·exact hk.elim
def f3P:=bB 153 f3O c1O
theorem e9G:aT env f3P:=aI g5Y (c7A)
def b6A(d:Nat)(xs:List IV)(h:Heap)(K:KT):Prop:=match xs with
 | [.ptr id 0,.int .i64 f,.int .i64 dp]=> ∃(r:Nat)(w:Int),RN h id r w/\(f=0\/f=1)/\(0<=dp/\dp<=4/\4-dp< (d:Int))/\
  (∀(k n:Int)(nm:List UInt8)(op:Int)(ks:List E)(r2:Nat)(h2:Heap),gY f (4-dp).toNat r r2 (.mk k n nm op ks)->GN h id r2 w h2->K (.agg [.int .i64 k,.int .i64 n,.str nm,.int .i64 op,.vslice none 0 ks.length 5 (aW ks)]) h2)
 |_=>False
abbrev b6B(dp:Int)(dd:Nat):=0<=wW (dp+1)/\wW (dp+1)<=4/\(4:Int)-wW (dp+1)< (↑dd:Int)
def b1K(n:Int):=wW (Int.tdiv n (16:Int))% (1000:Int)
abbrev d6A(Q:KT)(n:Int)(h2:Heap):=bR n/\∀(w:Int),bR w->Q (.agg [.int .i64 1,iI w,IV.str [],iI 0,IV.vslice none 0 0 5 []]) h2
def d6B(f n:Int):=decide (0<=Int.tmod (b1K n) (↑((bN f).length):Int)) &&decide (Int.tmod (b1K n) (↑((bN f).length):Int)< (↑((bN f).length):Int))
def b6C(dp:Int):=((4:Int)-wW (dp+1)).toNat
def d6C(f n:Int):=(Int.tmod (b1K n) (↑((bN f).length):Int)).toNat*1
abbrev b1L(f:Int):=f=0\/f=1
def d6D(f:Int):=!(↑((bN f).length):Int)==0
def f3Q(n:Int):=decide (0<=Int.tmod (b1K n) (2:Int)) &&decide (Int.tmod (b1K n) (2:Int)<2)
def f3R(n k op:Int)(nm:List UInt8)(ks:List E):=[iI k,iI n,IV.str nm,iI op,IV.vslice none 0 ks.length 5 (aW ks)]
theorem g1M(dd:Nat)(id:Nat)(f dp:Int)(h:Heap)(Q:KT):dF (aV (bB 81 (b6A dd) f3P)) env 81 dV bT bT [.ptr id 0,.int .i64 f,.int .i64 dp] h Q=(
 ∃(r:Nat),∃(w:Int),RN h id r w/\∀(n:Int)(h2:Heap),bR n->(r=0->n=0)->RN h2 id (r-1) w->HF id h h2->(b1L f)/\((0:Int)<16/\(16:Int)<4611686018427387904)/\((0:Int)<1000/\(1000:Int)<4611686018427387904)/\aM (decide (n% (16:Int)<4)) (aM (Int.tmod (n% (16:Int)) (2:Int)==0) (aC (d6D f) (aC (d6B f n) (bZ (List.map IV.str (bN f)) (d6C f n) fun(s0:List UInt8)=>Q (.agg [.int .i64 2,iI 0,IV.str s0,iI (0:Int),IV.vslice none 0 0 5 []]) h2))) (aM (decide (dp>3)) (aM (decide (n% (16:Int)>8)) (aC (d6D f) (aC (d6B f n) (bZ (List.map IV.str (bN f)) (d6C f n) fun(s1:List UInt8)=>Q (.agg [.int .i64 2,iI (0:Int),IV.str s1,iI 0,IV.vslice none 0 0 5 []]) h2))) (d6A Q n h2)) (d6A Q n h2))) (aM (decide (dp>3)) (aM (Int.tmod (n% (16:Int)) (2:Int)==0) (aC (d6D f) (aC (d6B f n) (bZ (List.map IV.str (bN f)) (d6C f n) fun(s2:List UInt8)=>Q (.agg [.int .i64 2,iI 0,IV.str s2,iI 0,IV.vslice none 0 0 5 []]) h2))) (aM (decide (dp>3)) (aM (decide (n% (16:Int)>8)) (aC (d6D f) (aC (d6B f n) (bZ (List.map IV.str (bN f)) (d6C f n) fun(s3:List UInt8)=>Q (.agg [.int .i64 2,iI 0,IV.str s3,iI 0,IV.vslice none 0 0 5 []]) h2))) (d6A Q n h2)) (d6A Q n h2))) (aM (decide (n% (16:Int)< (6:Int))) (aC (f3Q n) (bZ [IV.str [97],IV.str [98]] ((Int.tmod (b1K n) (2:Int)).toNat*1) fun(s4:List UInt8)=> ∃(r:Nat),∃(w:Int),RN h2 id r w/\(b1L f)/\(b6B dp dd)/\∀(k n:Int)(nm:List UInt8)(op:Int)(ks:List E)(r2:Nat)(h2_1:Heap),gY f (b6C dp) r r2 (E.mk k n nm op ks)->GN h2 id r2 w h2_1->Q (.agg [.int .i64 3,iI 0,IV.str s4,iI 0,IV.vslice none 0 1 5 (f3R n k op nm ks)]) h2_1)) (aM (decide (n% (16:Int)<7)) (∃(r:Nat),∃(w:Int),RN h2 id r w/\(b1L f)/\(b6B dp dd)/\∀(k n:Int)(nm:List UInt8)(op:Int)(ks:List E)(r2:Nat)(h2_1:Heap),gY f (b6C dp) r r2 (E.mk k n nm op ks)->GN h2 id r2 w h2_1-> ∃(r:Nat),∃(w:Int),RN h2_1 id r w/\(b1L f)/\(b6B dp dd)/\∀(k_1 n_1:Int)(nm_1:List UInt8)(op_1:Int)(ks_1:List E)(r2:Nat)(h2:Heap),gY f (b6C dp) r r2 (E.mk k_1 n_1 nm_1 op_1 ks_1)->GN h2_1 id r2 w h2-> ∃(r:Nat),∃(w:Int),RN h2 id r w/\(b1L f)/\(b6B dp dd)/\∀(k_2 n_2:Int)(nm_2:List UInt8)(op_2:Int)(ks_2:List E)(r2:Nat)(h2_2:Heap),gY f (b6C dp) r r2 (E.mk k_2 n_2 nm_2 op_2 ks_2)->GN h2 id r2 w h2_2->Q (.agg [.int .i64 5,iI 0,IV.str [],iI 0,IV.vslice none 0 3 5 [iI k,iI n,IV.str nm,iI op,IV.vslice none 0 ks.length 5 (aW ks),iI k_1,iI n_1,IV.str nm_1,iI op_1,IV.vslice none 0 ks_1.length 5 (aW ks_1),iI k_2,iI n_2,IV.str nm_2,iI op_2,IV.vslice none 0 ks_2.length 5 (aW ks_2)]]) h2_2) (aM (decide (n% (16:Int)<9)) (aC (f3Q n) (aK .i64 [iI 20,iI 21] ((Int.tmod (b1K n) (2:Int)).toNat*1) fun n5=> ∃(r:Nat),∃(w:Int),RN h2 id r w/\(b1L f)/\(b6B dp dd)/\∀(k n:Int)(nm:List UInt8)(op:Int)(ks:List E)(r2:Nat)(h2_1:Heap),gY f (b6C dp) r r2 (E.mk k n nm op ks)->GN h2 id r2 w h2_1->Q (.agg [.int .i64 4,iI 0,IV.str [],iI n5,IV.vslice none 0 1 5 (f3R n k op nm ks)]) h2_1)) (∃(r:Nat),∃(w:Int),RN h2 id r w/\(b1L f)/\(b6B dp dd)/\∀(k n_1:Int)(nm:List UInt8)(op:Int)(ks:List E)(r2:Nat)(h2_1:Heap),gY f (b6C dp) r r2 (E.mk k n_1 nm op ks)->GN h2 id r2 w h2_1-> ∃(r:Nat),∃(w:Int),RN h2_1 id r w/\(b1L f)/\(b6B dp dd)/\∀(k_1 n_2:Int)(nm_1:List UInt8)(op_1:Int)(ks_1:List E)(r2:Nat)(h2:Heap),gY f (b6C dp) r r2 (E.mk k_1 n_2 nm_1 op_1 ks_1)->GN h2_1 id r2 w h2->Q (.agg [.int .i64 4,iI 0,IV.str [],iI (wW ((4:Int)+Int.tmod (b1K n) (15:Int))),IV.vslice none 0 2 5 [iI k,iI n_1,IV.str nm,iI op,IV.vslice none 0 ks.length 5 (aW ks),iI k_1,iI n_2,IV.str nm_1,iI op_1,IV.vslice none 0 ks_1.length 5 (aW ks_1)]]) h2)))))):=by kernel_rfl
theorem g1N: ∀d xs h Q,b6A d xs h Q->aU env 81 xs h Q:=by
 intro d
 induction d with
 |zero=>
  intro xs h Q hk;unfold b6A at hk;split at hk
  ·rename_i id f dp;obtain⟨r,w,hr,hf,hd,hk⟩:=hk;have h1:=hd.2.1;have h2:=hd.2.2;omega
  ·exact hk.elim
 |succ dd ih=>
  intro xs h Q hk;unfold b6A at hk;split at hk
  ·rename_i id f dp;obtain⟨r,w,hr,hf,hd,hk⟩:=hk;refine aS (aI ih (e9G)) (g1M dd id f dp h Q) ?_;delta b6B b1K d6A d6B b6C d6C b1L d6D f3Q f3R wW iI;obtain⟨hd0,hd4,hdd⟩:=hd;refine⟨r,w,hr,fun n h2 hn hz g1 g2=>⟨hf,⟨by decide,by decide⟩,⟨by decide,by decide⟩,?_⟩⟩;have hg:GN h id (r-1) w h2:=⟨g1,g2⟩;have hn0:n≠0->1<=r:=fun q=>by
    rcases h6C r with q2|q2
    ·exact absurd (hz q2) q
    ·exact q2
   have hnl:0< (bN f).length:=by rcases hf with rfl|rfl<;>decide
   have hm0:0<=IntKind.i64.wrap (Int.tdiv n 16)%1000:=h3K _ (by decide);generalize IntKind.i64.wrap (Int.tdiv n 16)%1000=m at hm0⊢;have t1:0<=Int.tmod m ((bN f).length:Int)/\Int.tmod m ((bN f).length:Int)< (bN f).length:=by
    rw [h3N hm0];exact⟨h3K _ (by omega),h3J _ (by omega)⟩
   have t2:0<=Int.tmod m 2/\Int.tmod m 2<2:=by
    rw [h3N hm0];omega
   have t3:0<=Int.tmod m 15/\Int.tmod m 15<15:=by
    rw [h3N hm0];omega
   generalize Int.tmod m 2=m2 at t2⊢;generalize Int.tmod m 15=m15 at t3⊢;generalize Int.tmod m ((bN f).length:Int)=ml at t1⊢;have hvar: ∀s∈bN f,Q (IV.agg [IV.int .i64 2,IV.int .i64 0,IV.str s,IV.int .i64 0,IV.vslice none 0 0 5 []]) h2:=fun s hs=>
    hk 2 0 s 0 [] (r-1) h2 ⟨⟨.inr (.inl ⟨rfl,rfl,rfl,rfl,hs⟩),trivial⟩,h1N _,Nat.sub_le _ _,h1N _⟩ hg
   have var:aC (!(((bN f).length:Int)==0)) (aC (decide (0<=ml) &&decide (ml< ((bN f).length:Int))) (bZ ((bN f).map IV.str) (ml.toNat*1) fun s=>Q (IV.agg [IV.int .i64 2,IV.int .i64 0,IV.str s,IV.int .i64 0,IV.vslice none 0 0 5 []]) h2)):=
    aA (by simp only [h2K,beq_eq_false_iff_ne];omega) (aA (by simp;omega) (a3R (by omega) hvar))
   have num:n≠0->bR n/\∀w:Int,bR w->Q (IV.agg [IV.int .i64 1,IV.int .i64 w,IV.str [],IV.int .i64 0,IV.vslice none 0 0 5 []]) h2:=fun q=>⟨hn,fun w hw=>
    hk 1 w [] 0 [] (r-1) h2 ⟨⟨.inl ⟨rfl,rfl,rfl,rfl,hw⟩,trivial⟩,h1N _,Nat.sub_le _ _,by have:=hn0 q;simp [E.cost,Es.cost];omega⟩ hg⟩
   refine aD (fun c1=>aD (fun _=>var) (fun c2=>?_)) (fun c1=>?_)
   ·have hne:n≠0:=fun q=>by rw [q]at c2;cases c2
    exact aD (fun _=>aD (fun _=>var) (fun _=>num hne)) (fun _=>num hne)
   rw [decide_eq_false_iff_not]at c1;have hne:n≠0:=fun q=>by rw [q]at c1;exact c1 (by decide)
   have hr1:=hn0 hne;refine aD (fun _=>aD (fun _=>var) (fun _=>aD (fun _=>aD (fun _=>var) (fun _=>num hne)) (fun _=>num hne))) (fun c3=>?_);rw [decide_eq_false_iff_not]at c3;have hwd:IntKind.i64.wrap (dp+1)=dp+1:=h0X _ (by omega);rw [hwd];have hdp:0<=dp+1/\dp+1<=4/\4- (dp+1)< (dd:Int):=by omega
   have eD:(4-dp).toNat=(4- (dp+1)).toNat+1:=by omega
   have eR:r=(r-1)+1:=by omega
   rw [eD]at hk;generalize(4- (dp+1)).toNat=D at hk⊢;rw [eR]at hk;have fin1: ∀(k0 op0:Int)(nm0:List UInt8),a6Y f k0 0 nm0 op0 1-> ∀(a:E)(q1:Nat)(h3:Heap),gY f D (r-1) q1 a->GN h2 id q1 w h3->Q (IV.agg [IV.int .i64 k0,IV.int .i64 0,IV.str nm0,IV.int .i64 op0,IV.vslice none 0 1 5 (aW [a])]) h3:=
    fun k0 op0 nm0 hd a q1 h3 p1 g3=>hk k0 0 nm0 op0 [a] q1 h3 (gY.node (mV.snoc mV.nil p1) hd) (hg.trans g3)
   have fin2: ∀(a b:E)(q1 q2:Nat)(h3 h4:Heap),gY f D (r-1) q1 a->gY f D q1 q2 b->GN h2 id q1 w h3->GN h3 id q2 w h4->Q (IV.agg [IV.int .i64 4,IV.int .i64 0,IV.str [],IV.int .i64 (IntKind.i64.wrap (4+m15)),IV.vslice none 0 2 5 (aW [a,b])]) h4:=
    fun a b q1 q2 h3 h4 p1 p2 g3 g4=>hk 4 0 [] _ [a,b] q2 h4 (gY.node (mV.snoc (mV.snoc mV.nil p1) p2) (.inr (.inr (.inr (.inl ⟨rfl,rfl,rfl,.inl ⟨rfl,by rw [h0X _ (by omega)];omega,by rw [h0X _ (by omega)];omega⟩⟩))))) ((hg.trans g3).trans g4)
   have fin3: ∀(a b c:E)(q1 q2 q3:Nat)(h3 h4 h5:Heap),gY f D (r-1) q1 a->gY f D q1 q2 b->gY f D q2 q3 c->GN h2 id q1 w h3->GN h3 id q2 w h4->GN h4 id q3 w h5->Q (IV.agg [IV.int .i64 5,IV.int .i64 0,IV.str [],IV.int .i64 0,IV.vslice none 0 3 5 (aW [a,b,c])]) h5:=
    fun a b c q1 q2 q3 h3 h4 h5 p1 p2 p3 g3 g4 g5=>hk 5 0 [] 0 [a,b,c] q3 h5 (gY.node (mV.snoc (mV.snoc (mV.snoc mV.nil p1) p2) p3) (.inr (.inr (.inr (.inr ⟨rfl,rfl,rfl,rfl,rfl⟩))))) (((hg.trans g3).trans g4).trans g5)
   refine aD (fun _=>aA (by simp;omega) (a3R (l:=oW) (show m2.toNat*1<2 by omega) fun s hs=>?_)) (fun _=>aD (fun _=>?_) (fun _=>aD (fun _=>aA (by simp;omega) (f2W (l:=[20,21]) (show m2.toNat*1<2 by omega) fun s hs=>?_)) (fun _=>?_)))
   ·exact⟨r-1,w,g1,hf,hdp,fun k1 n1 nm1 op1 ks1 q1 h3 p1 g3=>fin1 3 0 s (.inr (.inr (.inl ⟨rfl,rfl,rfl,rfl,hs⟩))) _ q1 h3 p1 g3⟩
   ·exact⟨r-1,w,g1,hf,hdp,fun k1 n1 nm1 op1 ks1 q1 h3 p1 g3=>⟨q1,w,g3.1,hf,hdp,fun k2 n2 nm2 op2 ks2 q2 h4 p2 g4=>⟨q2,w,g4.1,hf,hdp,fun k3 n3 nm3 op3 ks3 q3 h5 p3 g5=>fin3 _ _ _ q1 q2 q3 h3 h4 h5 p1 p2 p3 g3 g4 g5⟩⟩⟩
   ·have hs2:20<=s/\s<=21:=by simp only [h2O,h4G,or_false]at hs;omega
    exact⟨r-1,w,g1,hf,hdp,fun k1 n1 nm1 op1 ks1 q1 h3 p1 g3=>fin1 4 s [] (.inr (.inr (.inr (.inl ⟨rfl,rfl,rfl,.inr ⟨rfl,hs2⟩⟩)))) _ q1 h3 p1 g3⟩
   ·exact⟨r-1,w,g1,hf,hdp,fun k1 n1 nm1 op1 ks1 q1 h3 p1 g3=>⟨q1,w,g3.1,hf,hdp,fun k2 n2 nm2 op2 ks2 q2 h4 p2 g4=>fin2 _ _ q1 q2 h3 h4 p1 p2 g3 g4⟩⟩
  ·exact hk.elim
def b6D:=bB 81 (fun xs h K=> ∃d,b6A d xs h K) f3P
theorem d6E:aT env b6D:=aI (fun xs h Q hk=>hk.elim fun d hk=>g1N d xs h Q hk) (e9G)
def g1O(id:Nat)(f dp mo:Int)(r:Nat)(w:Int)(h:Heap):Inv':= .or
 (hJ (Nat×Nat×Int×Heap) (fun x=>[(0,.v (.ptr id 0)),(1,.v (.int .i64 f)),(2,.v (.int .i64 dp)),(9,.v .nilslice),(10,.v (.int .i64 x.1))]) (fun _=>[]) (fun x=>x.2.2.2) (fun x=>x.1<=10/\fQ f dp.toNat r x.2.1 w x.2.2.1 []/\GN h id x.2.1 x.2.2.1 x.2.2.2) (fun x=>x.1))
 (hJ (Nat×Nat×Int×Heap×List S×Nat) (fun x=>[(0,.v (.ptr id 0)),(1,.v (.int .i64 f)),(2,.v (.int .i64 dp)),(9,.v (.vslice (some x.2.2.2.2.2) (x.2.2.2.2.1.length*17) x.2.2.2.2.1.length 17 (aX x.2.2.2.2.1))),(10,.v (.int .i64 x.1))]) (fun _=>[]) (fun x=>x.2.2.2.1) (fun x=>x.1+x.2.2.2.2.1.length<=10/\fQ f dp.toNat r x.2.1 w x.2.2.1 x.2.2.2.2.1/\GN h id x.2.1 x.2.2.1 x.2.2.2.1/\x.2.2.2.1.get x.2.2.2.2.2= .tip (x.2.2.2.2.1.length*17)/\h.next<=x.2.2.2.2.2/\x.2.2.2.2.2<x.2.2.2.1.next) (fun x=>x.1))
def g1P(id:Nat)(f dp:Int)(r:Nat)(w:Int)(h:Heap):Inv':=hJ (Int×Int×Heap) (fun x=>[(0,.v (.ptr id 0)),(1,.v (.int .i64 f)),(2,.v (.int .i64 dp)),(6,.l 6 0),(8,.v (.vslice none 0 (bN f).length 1 ((bN f).map IV.str))),(9,.v (.int .i64 x.1)),(10,.v (.int .i64 x.2.1))])
 (fun _=>[(6,[.int .i64 0,.str [],.str [],.int .i64 0,.int .i64 0,.int .i64 0,.str [],.int .i64 0,.nilslice,.int .i64 0,.int .i64 0,.str [],.int .i64 0,.nilslice,.nilslice,.nilslice,.nilslice])]) (fun x=>x.2.2)
 (fun x=>(0<=x.1/\x.1<1000)/\(0<=x.2.1/\x.2.1<16)/\(2<dp->x.2.1<8\/12<=x.2.1)/\(10<=w->x.2.1<10)/\GN h id (r-1) w x.2.2) (fun _=>0)
def a4K(d:Nat)(xs:List IV)(h:Heap)(K:KT):Prop:=match xs with
 | [.ptr id 0,.int .i64 f,.int .i64 dp,.int .i64 mo]=> ∃(r:Nat)(w:Int),(RN h id r w/\0<=w/\w<=10)/\(f=0\/f=1)/\(0<=dp/\dp<=3/\2*(3-dp)+1< (d:Int))/\(0<=mo/\mo<=10)/\
  (∀(l:List S)(r2:Nat)(w2:Int)(h2:Heap),fQ f dp.toNat r r2 w w2 l->GN h id r2 w2 h2->K (.vslice none 0 l.length 17 (aX l)) h2)
 |_=>False
def c1P(d:Nat)(xs:List IV)(h:Heap)(K:KT):Prop:=match xs with
 | [.ptr id 0,.int .i64 f,.int .i64 dp]=> ∃(r:Nat)(w:Int),(RN h id r w/\0<r/\0<=w/\w<=10)/\(f=0\/f=1)/\(0<=dp/\dp<=3/\2*(3-dp)< (d:Int))/\(∀(k:Int)(nm to:List UInt8)(n:Int)(ak an:Int)(anm:List UInt8)(aop:Int)(aks:List E)(vk vn:Int)(vnm:List UInt8)(vop:Int)(vks:List E)(args:List E)(th el:List S)(r2:Nat)(w2:Int)(h2:Heap),xG f dp.toNat r r2 w w2 (.mk k nm to n (.mk ak an anm aop aks) (.mk vk vn vnm vop vks) args th el)->GN h id r2 w2 h2->K (.agg [.int .i64 k,.str nm,.str to,.int .i64 n,.int .i64 ak,.int .i64 an,.str anm,.int .i64 aop,.vslice none 0 aks.length 5 (aW aks),.int .i64 vk,.int .i64 vn,.str vnm,.int .i64 vop,.vslice none 0 vks.length 5 (aW vks),.vslice none 0 args.length 5 (aW args),.vslice none 0 th.length 17 (aX th),.vslice none 0 el.length 17 (aX el)]) h2)
 |_=>False
def d6F(n k ak an aop vk vn vop:Int)(nm to anm vnm:List UInt8)(aks vks args:List E)(th el:List M10.S):=[iI k,IV.str nm,IV.str to,iI n,iI ak,iI an,IV.str anm,iI aop,IV.vslice none 0 aks.length 5 (aW aks),iI vk,iI vn,IV.str vnm,iI vop,IV.vslice none 0 vks.length 5 (aW vks),IV.vslice none 0 args.length 5 (aW args),IV.vslice none 0 th.length 17 (aX th),IV.vslice none 0 el.length 17 (aX
 el)]
def zP(f:Int):=TV.v (.int .i64 f)
def zQ(dp:Int):=TV.v (.int .i64 dp)
def zR(id:Nat):=TV.v (.ptr id 0)
def d1U:=TV.v IV.nilslice
abbrev f3S(dp:Int)(dd:Nat):=0<=dp/\dp<=3/\(2:Int)*((3:Int)-dp)< (↑dd:Int)
def f3T:=IV.vslice none 0 0 17 []
theorem g1Q(dd:Nat)(id:Nat)(f dp mo:Int)(r:Nat)(w:Int)(h:Heap)(Q:KT):dF (aV (bB 152 (c1P dd) (bB 80 (a4K dd) b6D))) env 80 dV (tK 4 (g1O id f dp mo r w h)) bT [.ptr id 0,.int .i64 f,.int .i64 dp,.int .i64 mo] h Q=(
 ∃(r_1:Nat),∃(w_1:Int),RN h id r_1 w_1/\∀(n:Int)(h2:Heap),bR n->(r_1=0->n=0)->RN h2 id (r_1-1) w_1->HF id h h2->(0<wW (mo+1)/\wW (mo+1)<4611686018427387904)/\((∃(x:Nat×Nat×Int×Heap),some (zR id)=some (zR id)/\some (zP f)=some (zP f)/\some (zQ dp)=some (zQ dp)/\some d1U=some d1U/\tI (n%wW (mo+1))=tI (↑x.1:Int)/\h2=x.2.2.2/\(x.1<=10/\fQ f dp.toNat r x.2.1 w x.2.2.1 []/\GN h id x.2.1 x.2.2.1 x.2.2.2)/\True) \/ ∃(x:Nat×Nat×Int×Heap×List M10.S×Nat),some (zR id)=some (zR id)/\some (zP f)=some (zP f)/\some (zQ dp)=some (zQ dp)/\some d1U=some (TV.v (.vslice (some x.2.2.2.2.2) (x.2.2.2.2.1.length*17) (x.2.2.2.2.1.length) 17 (aX x.2.2.2.2.1)))/\tI (n%wW (mo+1))=tI (↑x.1:Int)/\h2=((x.2.2).2).1/\(x.1+x.2.2.2.2.1.length<=10/\fQ f dp.toNat r x.2.1 w x.2.2.1 x.2.2.2.2.1/\GN h id x.2.1 (x.2.2.1) x.2.2.2.1/\Heap.get x.2.2.2.1 x.2.2.2.2.2=IObj.tip (x.2.2.2.2.1.length*17)/\Heap.next h<=Prod.snd x.2.2.2.2/\x.2.2.2.2.2<x.2.2.2.1.next)/\True)/\(∀(x:Nat×Nat×Int×Heap)(b:FF),x.1<=10/\fQ f dp.toNat r x.2.1 w ((x.2.2).1) []/\GN h id x.2.1 x.2.2.1 x.2.2.2->aM (decide ((↑x.1:Int)>0)) (aF x.2.2.2 id fun r0=>bH 1 r0 0 fun(i1:Option Nat)(e2 l3:Nat)(c4:List IV)=>aM (decide ((↑l3:Int)>0)) (∃(r_2:Nat),∃(w_2:Int),(RN x.2.2.2 id r_2 w_2/\0<r_2/\0<=w_2/\w_2<=10)/\(f=0\/f=1)/\(f3S dp dd)/\∀(k:Int)(nm to:List UInt8)(n ak an:Int)(anm:List UInt8)(aop:Int)(aks:List E)(vk vn:Int)(vnm:List UInt8)(vop:Int)(vks args:List E)(th el:List M10.S)(r2:Nat)(w2:Int)(h2:Heap),xG f dp.toNat r_2 r2 w_2 w2 (M10.S.mk k nm to n (E.mk ak an anm aop aks) (E.mk vk vn vnm vop vks) args th el)->GN ((x.2.2).2) id r2 w2 h2->(∃(x_1:Nat×Nat×Int×Heap),some (zR id)=some (zR id)/\some (zP f)=some (zP f)/\some (zQ dp)=some (zQ dp)/\some (TV.v (.vslice (some (h2.next)) 17 1 17 (d6F n k ak an aop vk vn vop nm to anm vnm aks vks args th el)))=some d1U/\tI (wW ((↑x.1:Int)-1))=tI (↑x_1.1:Int)/\Heap.push h2 (IObj.tip (17:Nat))=x_1.2.2.2/\(x_1.1<=10/\fQ f dp.toNat r (x_1.2.1) w x_1.2.2.1 []/\GN h id x_1.2.1 x_1.2.2.1 x_1.2.2.2)/\x_1.1<x.1) \/ ∃(x_1:Nat×Nat×Int×Heap×List M10.S×Nat),some (zR id)=some (zR id)/\some (zP f)=some (zP f)/\some (zQ dp)=some (zQ dp)/\some (TV.v (.vslice (some (h2.next)) 17 1 17 (d6F n k ak an aop vk vn vop nm to anm vnm aks vks args th el)))=some (TV.v (.vslice (some x_1.2.2.2.2.2) ((x_1.2.2.2.2.1).length*17) x_1.2.2.2.2.1.length 17 (aX x_1.2.2.2.2.1)))/\tI (wW ((↑x.1:Int)- (1:Int)))=tI (↑x_1.1:Int)/\Heap.push h2 (IObj.tip (17:Nat))=x_1.2.2.2.1/\(x_1.1+x_1.2.2.2.2.1.length<=10/\fQ f dp.toNat r ((x_1.2).1) w x_1.2.2.1 x_1.2.2.2.2.1/\GN h id x_1.2.1 x_1.2.2.1 x_1.2.2.2.1/\Heap.get x_1.2.2.2.1 ((x_1.2.2.2.2).2)=IObj.tip (x_1.2.2.2.2.1.length*17)/\Heap.next h<=x_1.2.2.2.2.2/\x_1.2.2.2.2.2< (((x_1.2.2).2).1).next)/\x_1.1<x.1) (Q f3T x.2.2.2)) (Q f3T x.2.2.2))/\∀(x:Nat×Nat×Int×Heap×List M10.S×Nat)(b:FF),x.1+x.2.2.2.2.1.length<=10/\fQ f dp.toNat r x.2.1 w x.2.2.1 x.2.2.2.2.1/\GN h id x.2.1 x.2.2.1 x.2.2.2.1/\Heap.get ((((x.2).2).2).1) x.2.2.2.2.2=IObj.tip (x.2.2.2.2.1.length*17)/\Heap.next h<=x.2.2.2.2.2/\x.2.2.2.2.2< (x.2.2.2.1).next->aM (decide ((↑x.1:Int)>0)) (aF x.2.2.2.1 id fun r5=>bH 1 r5 0 fun(i6:Option Nat)(e7 l8:Nat)(c9:List IV)=>aM (decide ((↑l8:Int)>0)) (∃(r_2:Nat),∃(w_2:Int),(RN x.2.2.2.1 id r_2 w_2/\0<r_2/\0<=w_2/\w_2<=10)/\(f=0\/f=1)/\(f3S dp dd)/\∀(k:Int)(nm to:List UInt8)(n ak an:Int)(anm:List UInt8)(aop:Int)(aks:List E)(vk vn:Int)(vnm:List UInt8)(vop:Int)(vks args:List E)(th el:List M10.S)(r2:Nat)(w2:Int)(h2:Heap),xG f dp.toNat r_2 r2 w_2 w2 (M10.S.mk k nm to n (E.mk ak an anm aop aks) (E.mk vk vn vnm vop vks) args th el)->GN x.2.2.2.1 id r2 w2 h2->dG h2 ((x.2.2.2.2).2) fun(m10:Nat)=>aC (Nat.beq m10 (x.2.2.2.2.1.length*17) &&Nat.ble ((x.2.2.2.2.1.length+1)*248) (140737488355328:Nat)) ((∃(x_1:Nat×Nat×Int×Heap),some (zR id)=some (zR id)/\some (zP f)=some (zP f)/\some (zQ dp)=some (zQ dp)/\some (TV.v (.vslice (some x.2.2.2.2.2) (x.2.2.2.2.1.length*17+(17:Nat)) (x.2.2.2.2.1.length+1) 17 (aX x.2.2.2.2.1++(d6F n k ak an aop vk vn vop nm to anm vnm aks vks args th el))))=some d1U/\tI (wW ((↑x.1:Int)-1))=tI (↑x_1.1:Int)/\Heap.set h2 x.2.2.2.2.2 (IObj.tip (x.2.2.2.2.1.length*17+17))=((x_1.2).2).2/\(x_1.1<=10/\fQ f dp.toNat r x_1.2.1 w x_1.2.2.1 []/\GN h id x_1.2.1 x_1.2.2.1 x_1.2.2.2)/\x_1.1<x.1) \/ ∃(x_1:Nat×Nat×Int×Heap×List M10.S×Nat),some (zR id)=some (zR id)/\some (zP f)=some (zP f)/\some (zQ dp)=some (zQ dp)/\some (TV.v (.vslice (some x.2.2.2.2.2) (x.2.2.2.2.1.length*17+17) (x.2.2.2.2.1.length+1) 17 (aX x.2.2.2.2.1++(d6F n k ak an aop vk vn vop nm to anm vnm aks vks args th el))))=some (TV.v (.vslice (some (((((x_1.2).2).2).2).2)) (x_1.2.2.2.2.1.length*17) x_1.2.2.2.2.1.length 17 (aX x_1.2.2.2.2.1)))/\tI (wW ((↑x.1:Int)-1))=tI (↑x_1.1:Int)/\Heap.set h2 x.2.2.2.2.2 (IObj.tip (x.2.2.2.2.1.length*17+17))=((x_1.2.2).2).1/\(x_1.1+x_1.2.2.2.2.1.length<=10/\fQ f dp.toNat r x_1.2.1 w x_1.2.2.1 x_1.2.2.2.2.1/\GN h id x_1.2.1 x_1.2.2.1 x_1.2.2.2.1/\Heap.get x_1.2.2.2.1 x_1.2.2.2.2.2=IObj.tip (x_1.2.2.2.2.1.length*17)/\Heap.next h<=x_1.2.2.2.2.2/\x_1.2.2.2.2.2<x_1.2.2.2.1.next)/\x_1.1<x.1)) (Q (.vslice none 0 (((((x.2.2).2).2).1).length) 17 (aX x.2.2.2.2.1)) x.2.2.2.1)) (Q (.vslice none 0 x.2.2.2.2.1.length 17 (aX (((((x.2).2).2).2).1))) x.2.2.2.1)):=by kernel_rfl
abbrev c7B(dp:Int)(dd:Nat):=0<=wW (dp+1)/\wW (dp+1)<=3/\(2:Int)*((3:Int)-wW (dp+1))+1< (↑dd:Int)
def d6G:=[iI 0,IV.str [],IV.str [],iI 0,iI 0,iI 0,IV.str [],iI 0,IV.nilslice,iI 0,iI 0,IV.str [],iI 0,IV.nilslice,IV.nilslice,IV.nilslice,IV.nilslice]
abbrev nT(f:Int):=f=0\/f=1
abbrev b6E(d:Nat):=(0:Int)<=2/\(2:Int)<=4/\2< (↑d:Int)
abbrev b6F(d:Nat):=(0:Int)<=1/\(1:Int)<=4/\3< (↑d:Int)
def jR(x:Int×Int×Heap):=x.2.2
def d6H(f:Int)(x:Int×Int×Heap):=decide (0<=Int.tmod x.1 (↑((bN f).length):Int)) &&decide (Int.tmod x.1 (↑((bN f).length):Int)< (↑((bN f).length):Int))
def d6I(f:Int):=TV.v (.vslice none 0 ((bN f).length) 1 (List.map IV.str (bN f)))
def vI(dp f n w:Int)(h h2:Heap)(id r:Nat)(y0:Int):Prop:= ∃(yy:Int×Int×Heap),some (TV.v (.ptr id 0))=some (TV.v (.ptr id 0))/\tI f=tI f/\tI dp=tI dp/\some (TV.l 6 0)=some (TV.l 6 0)/\some (d6I f)=some (d6I f)/\tI (wW (Int.tdiv n (16:Int))% (1000:Int))=tI yy.1/\tI (y0)=tI yy.2.1/\some d6G=some d6G/\h2=yy.2.2/\((0
 <=yy.1/\yy.1<1000)/\(0<=yy.2.1/\yy.2.1<16)/\(2<dp->yy.2.1<8\/12<=yy.2.1)/\(10<=w->yy.2.1<10)/\GN h id (r-1) w yy.2.2)/\True
def c7C(id r:Nat)(f dp w n:Int)(h h2:Heap):=aM (decide (n% (16:Int)>=10)) (vI dp f n w h h2 id r (0:Int)) (vI dp f n w h h2 id r (n% (16:Int)))
def d6J(n9:Int)(r10:List IV):=IObj.cells (List.take 1 r10++ [iI (wW (n9+1))]++List.drop 2 r10)
def d6K(x:Int×Int×Heap):=decide (0<=Int.tmod x.1 (2:Int)) &&decide (Int.tmod x.1 (2:Int)<2)
def c7D(dp:Int):=(wW (dp+1)).toNat
abbrev d6L:=(0:Int)<=3/\(3:Int)<=10
def c7E(x:Int×Int×Heap):=(2:Int)-Int.tmod x.1 (2:Int)
theorem g5Z(dd:Nat)(id:Nat)(f dp:Int)(r:Nat)(w:Int)(h:Heap)(Q:KT):dF (aV (bB 152 (c1P dd) (bB 80 (a4K dd) b6D))) env 152 (fun k=>match Nat.beq k 27 with|true=>3|false=>0) bT (tK 8 (g1P id f dp r w h)) [.ptr id 0,.int .i64 f,.int .i64 dp] h Q=(
 ∃(r_1:Nat),∃(w_1:Int),RN h id r_1 w_1/\∀(n:Int)(h2:Heap),bR n->(r_1=0->n=0)->RN h2 id (r_1-1) w_1->HF id h h2->(nT f)/\((0:Int)<1000/\(1000:Int)<4611686018427387904)/\((0:Int)<16/\(16:Int)< (4611686018427387904:Int))/\aM (decide (dp>2)) (aM (decide (n% (16:Int)>=8)) (aM (decide (n% (16:Int)<12)) (vI dp f n w h h2 id r (0:Int)) (aF h2 id fun r0=>aK .i64 r0 1 fun n1=>aM (decide (n1>=10)) (c7C id r f dp w n h h2) (vI dp f n w h h2 id r (n% (16:Int))))) (aF h2 id fun r2=>aK .i64 r2 1 fun n3=>aM (decide (n3>=10)) (c7C id r f dp w n h h2) (vI dp f n w h h2 id r (n% (16:Int))))) (aF h2 id fun r4=>aK .i64 r4 1 fun n5=>aM (decide (n5>=10)) (c7C id r f dp w n h h2) (vI dp f n w h h2 id r (n% (16:Int))))/\∀(x:Int×Int×Heap)(b:FF),(0<=x.1/\x.1<1000)/\(0<=x.2.1/\x.2.1<16)/\((2:Int)<dp->x.2.1<8\/12<=x.2.1)/\(10<=w->x.2.1<10)/\GN h id (r-1) w (jR x)->aM (decide (x.2.1<6)) (aC (!(↑((bN f).length):Int)==0) (aC (d6H f x) (bZ (List.map IV.str (bN f)) ((Int.tmod x.1 (↑((bN f).length):Int)).toNat*1) fun(s6:List UInt8)=> ∃(d r:Nat),∃(w:Int),RN (jR x) id r w/\(nT f)/\((0:Int)<=0/\(0:Int)<=4/\4< (↑d:Int))/\∀(k n:Int)(nm:List UInt8)(op:Int)(ks:List E)(r2:Nat)(h2:Heap),gY f (4:Nat) r r2 (E.mk k n nm op ks)->GN (jR x) id r2 w h2->Q (.agg [.int .i64 1,IV.str s6,IV.str [],iI 0,iI 0,iI 0,IV.str [],iI (0:Int),IV.vslice none 0 0 5 [],iI k,iI n,IV.str nm,iI op,IV.vslice none 0 ks.length 5 (aW ks),IV.vslice none 0 0 5 [],IV.vslice none 0 0 17 [],IV.vslice none (0:Nat) (0:Nat) (17:Nat) []]) h2))) (aM (decide (x.2.1<8)) (aC (d6K x) (bZ [IV.str [97],IV.str [98]] ((Int.tmod x.1 (2:Int)).toNat*1) fun(s7:List UInt8)=> ∃(d r:Nat),∃(w:Int),RN (jR x) id r w/\(nT f)/\(b6E d)/\∀(k n:Int)(nm:List UInt8)(op:Int)(ks:List E)(r2:Nat)(h2:Heap),gY f (2:Nat) r r2 (E.mk k n nm op ks)->GN (jR x) id r2 w h2-> ∃(d r:Nat),∃(w:Int),RN h2 id r w/\(nT f)/\(b6F d)/\∀(k_1 n_1:Int)(nm_1:List UInt8)(op_1:Int)(ks_1:List E)(r2:Nat)(h2_1:Heap),gY f (3:Nat) r r2 (E.mk k_1 n_1 nm_1 op_1 ks_1)->GN h2 id r2 w h2_1->Q (.agg [.int .i64 2,IV.str s7,IV.str [],iI 0,iI k,iI n,IV.str nm,iI op,IV.vslice none (0:Nat) ks.length (5:Nat) (aW ks),iI k_1,iI n_1,IV.str nm_1,iI op_1,IV.vslice none 0 ks_1.length 5 (aW ks_1),IV.vslice none 0 0 5 [],IV.vslice none 0 0 17 [],IV.vslice none 0 0 17 []]) h2_1)) (aM (decide (x.2.1<10)) (∃(d r:Nat),∃(w:Int),RN (jR x) id r w/\(nT f)/\(b6F d)/\∀(k n:Int)(nm:List UInt8)(op:Int)(ks:List E)(r2:Nat)(h2:Heap),gY f (3:Nat) r r2 (E.mk k n nm op ks)->GN (jR x) id r2 w h2-> ∃(r:Nat),∃(w:Int),(RN h2 id r w/\0<=w/\w<=10)/\(nT f)/\(c7B dp dd)/\d6L/\∀(l:List M10.S)(r2:Nat)(w2:Int)(h2_1:Heap),fQ f (c7D dp) r r2 w w2 l->GN h2 id r2 w2 h2_1-> ∃(r:Nat),∃(w:Int),(RN h2_1 id r w/\0<=w/\w<=10)/\(nT f)/\(c7B dp dd)/\((0:Int)<=2/\(2:Int)<=10)/\∀(l_1:List M10.S)(r2:Nat)(w2:Int)(h2:Heap),fQ f (c7D dp) r r2 w w2 l_1->GN h2_1 id r2 w2 h2->Q (.agg [.int .i64 3,IV.str [],IV.str [],iI (0:Int),iI 0,iI 0,IV.str [],iI 0,IV.vslice none 0 0 5 [],iI k,iI n,IV.str nm,iI op,IV.vslice none 0 ks.length 5 (aW ks),IV.vslice none 0 0 5 [],IV.vslice none 0 l.length 17 (aX l),IV.vslice none 0 l_1.length 17 (aX l_1)]) h2) (aM (decide (x.2.1<12)) (aF (jR x) id fun r8=>aK .i64 r8 1 fun n9=>aF (jR x) id fun r10=>aC (Nat.ble 2 r10.length) (∃(d r:Nat),∃(w:Int),RN ((jR x).set id (d6J n9 r10)) id r w/\(nT f)/\(b6F d)/\∀(k n:Int)(nm:List UInt8)(op:Int)(ks:List E)(r2:Nat)(h2:Heap),gY f (3:Nat) r r2 (E.mk k n nm op ks)->GN ((jR x).set id (d6J n9 r10)) id r2 w h2-> ∃(r:Nat),∃(w:Int),(RN h2 id r w/\0<=w/\w<=10)/\(nT f)/\(c7B dp dd)/\d6L/\∀(l:List M10.S)(r2:Nat)(w2:Int)(h2_1:Heap),fQ f (c7D dp) r r2 w w2 l->GN h2 id r2 w2 h2_1->Q (.agg [.int .i64 4,IV.str [],IV.str [],iI 0,iI 0,iI 0,IV.str [],iI 0,IV.vslice none 0 0 5 [],iI k,iI n,IV.str nm,iI op,IV.vslice none 0 ks.length 5 (aW ks),IV.vslice none 0 0 5 [],IV.vslice none 0 l.length 17 (aX l),IV.vslice none 0 0 17 []]) h2_1)) (aM (decide (x.2.1<14)) (∃(d r:Nat),∃(w:Int),RN (jR x) id r w/\(nT f)/\(b6F d)/\∀(k n:Int)(nm:List UInt8)(op:Int)(ks:List E)(r2:Nat)(h2:Heap),gY f (3:Nat) r r2 (E.mk k n nm op ks)->GN (jR x) id r2 w h2->Q (.agg [.int .i64 5,IV.str [],IV.str [],iI 0,iI 0,iI 0,IV.str [],iI 0,IV.vslice none 0 0 5 [],iI k,iI n,IV.str nm,iI op,IV.vslice none 0 ks.length 5 (aW ks),IV.vslice none 0 0 5 [],IV.vslice none 0 0 17 [],IV.vslice none 0 0 17 []]) h2) (aM (decide (x.2.1<15)) (aC (!(↑((bN f).length):Int)==0) (aC (d6H f x) (bZ (List.map IV.str (bN f)) ((Int.tmod x.1 (↑((bN f).length):Int)).toNat*1) fun(s11:List UInt8)=>aC (d6K x) (bZ [IV.str [102],IV.str [103]] ((Int.tmod x.1 (2:Int)).toNat*1) fun(s12:List UInt8)=>aM (decide (0<wW (c7E x))) (∃(d r:Nat),∃(w:Int),RN (jR x) id r w/\(nT f)/\(b6E d)/\∀(k n:Int)(nm:List UInt8)(op:Int)(ks:List E)(r2:Nat)(h2:Heap),gY f (2:Nat) r r2 (E.mk k n nm op ks)->GN (jR x) id r2 w h2->aM (decide (1<wW (c7E x))) (∃(d r:Nat),∃(w:Int),RN (h2.push (IObj.tip (5:Nat))) id r w/\(nT f)/\(b6E d)/\∀(k_1 n_1:Int)(nm_1:List UInt8)(op_1:Int)(ks_1:List E)(r2:Nat)(h2_1:Heap),gY f (2:Nat) r r2 (E.mk k_1 n_1 nm_1 op_1 ks_1)->GN (h2.push (IObj.tip (5:Nat))) id r2 w h2_1->dG h2_1 (h2.next) fun(m13:Nat)=>aC (Nat.beq m13 (5:Nat) &&true) (aM (decide (2<wW (c7E x))) (∃(d r:Nat),∃(w:Int),RN (h2_1.set (h2.next) (IObj.tip (10:Nat))) id r w/\(nT f)/\(b6E d)/\∀(k n:Int)(nm:List UInt8)(op:Int)(ks:List E)(r2:Nat)(h2_2:Heap),gY f (2:Nat) r r2 (E.mk k n nm op ks)->GN (h2_1.set (h2.next) (IObj.tip (10:Nat))) id r2 w h2_2->dG h2_2 (h2.next) fun(m14:Nat)=>aC (Nat.beq m14 (10:Nat) &&true) False) (Q (.agg [.int .i64 6,IV.str s11,IV.str s12,iI 0,iI 0,iI 0,IV.str [],iI 0,IV.vslice none 0 0 5 [],iI 0,iI 0,IV.str [],iI 0,IV.vslice none 0 0 5 [],IV.vslice none 0 2 5 [iI k,iI n,IV.str nm,iI op,IV.vslice none 0 ks.length 5 (aW ks),iI k_1,iI n_1,IV.str nm_1,iI op_1,IV.vslice none 0 ks_1.length 5 (aW ks_1)],IV.vslice none 0 0 17 [],IV.vslice none 0 0 17 []]) (h2_1.set (h2.next) (IObj.tip (10:Nat)))))) (Q (.agg [.int .i64 6,IV.str s11,IV.str s12,iI 0,iI 0,iI 0,IV.str [],iI 0,IV.vslice none 0 0 5 [],iI 0,iI (0:Int),IV.str [],iI 0,IV.vslice none 0 0 5 [],IV.vslice none 0 1 5 [iI k,iI n,IV.str nm,iI op,IV.vslice none 0 ks.length 5 (aW ks)],IV.vslice none 0 0 17 [],IV.vslice none 0 0 17 []]) (h2.push (IObj.tip (5:Nat))))) (Q (.agg [.int .i64 6,IV.str s11,IV.str s12,iI 0,iI 0,iI 0,IV.str [],iI (0:Int),IV.vslice none 0 0 5 [],iI 0,iI 0,IV.str [],iI 0,IV.vslice none 0 0 5 [],IV.vslice none 0 0 5 [],IV.vslice none 0 0 17 [],IV.vslice none 0 0 17 []]) (jR x)))))) (Q (.agg [.int .i64 7,IV.str [],IV.str [],iI x.1,iI 0,iI 0,IV.str [],iI 0,IV.vslice none 0 0 5 [],iI 0,iI 0,IV.str [],iI 0,IV.vslice none 0 0 5 [],IV.vslice none 0 0 5 [],IV.vslice none 0 0 17 [],IV.vslice none 0 0 (17:Nat) []]) (jR x)))))))):=by kernel_rfl
theorem gSt: ∀d,(∀xs h Q,a4K d xs h Q->aU env 80 xs h Q)/\(∀xs h Q,c1P d xs h Q->aU env 152 xs h Q):=by
 intro d
 induction d with
 |zero=>
  refine⟨?_,?_⟩
  ·intro xs h Q hk;unfold a4K at hk;split at hk
   ·rename_i id f dp mo;obtain⟨r,w,hr,hf,hd,hm,hk⟩:=hk;have h1:=hd.2.1;have h2:=hd.2.2;omega
   ·exact hk.elim
  ·intro xs h Q hk;unfold c1P at hk;split at hk
   ·rename_i id f dp;obtain⟨r,w,hr,hf,hd,hk⟩:=hk;have h1:=hd.2.1;have h2:=hd.2.2;omega
   ·exact hk.elim
 |succ dd ih=>
  have hT:aT env (bB 152 (c1P dd) (bB 80 (a4K dd) b6D)):=aI (ih.2) (aI (ih.1) (d6E));refine⟨?_,?_⟩
  ·intro xs h Q hk;unfold a4K at hk;split at hk
   ·rename_i id f dp mo;obtain⟨r,w,hr,hf,hd,hm,hk⟩:=hk;refine aS hT (g1Q dd id f dp mo r w h Q) ?_;delta d6F zP zQ zR d1U f3S f3T tI wW iI;obtain⟨hr,hw0,hw1⟩:=hr;obtain⟨hd0,hd3,hdd⟩:=hd;have hwm:IntKind.i64.wrap (mo+1)=mo+1:=h0X _ (by omega);rw [hwm];refine⟨r,w,hr,fun n h2 hn hz g1 g2=>⟨by omega,.inl ⟨((n% (mo+1)).toNat,r-1,w,h2),rfl,rfl,rfl,rfl,?_,rfl,⟨?_,fQ.mono (fQ.nil hw1) (Nat.sub_le _ _),g1,g2⟩,trivial⟩,?_,?_⟩⟩
    ·dsimp only;rw [h3Q (h3K _ (by omega))]
    ·have h1:=h3K n (show mo+1≠0 by omega);have h2:=h3J n (show 0<mo+1 by omega);dsimp only;omega
    ·rintro⟨k,r1,w1,g⟩ _ ⟨hk10,hp,hg⟩;dsimp only at hk10 hp hg⊢;have hg0:=hg;have hww:=hp.2.2.2.1;refine dW (fun c1=>?_) (fun _=>hk [] r1 w1 g hp hg);obtain⟨⟨hlt,io,e,l,hb,hlr,hget⟩,hfr⟩:=hg;refine aB hget (dY rfl (dW (fun c2=>⟨r1,w1,⟨hg0.1,by omega,by omega,by omega⟩,hf,by omega,fun k2 nm to n2 ak an anm aop aks vk vn vnm vop vks args th el r2 w2 h3 p3 g3=> .inr ⟨(k-1,r2,w2,h3.push (.tip 17),[.mk k2 nm to n2 (.mk ak an anm aop aks) (.mk vk vn vnm vop vks) args th el],h3.next),rfl,rfl,rfl,rfl,?_,rfl,⟨?_,hp.snoc p3,(hg0.trans g3).push,aR,?_,h1G _⟩,?_⟩⟩) (fun _=>hk [] r1 w1 g hp hg0)))
     ·dsimp only;rw [h0X _ (by omega),show((k:Int)-1)=((k-1:Nat):Int) by omega]
     ·dsimp only [List.length_cons,List.length_nil];omega
     ·have:=hg0.2.1;have:=g3.2.1;dsimp only;omega
     ·dsimp only;omega
    ·rintro⟨k,r1,w1,g,l0,i0⟩ _ ⟨hk10,hp,hg,ht,hi0,hi1⟩;dsimp only at hk10 hp hg ht hi0 hi1⊢;have hg0:=hg;have hww:=hp.2.2.2.1;have hrid:=hr.1;refine dW (fun c1=>?_) (fun _=>hk l0 r1 w1 g hp hg);obtain⟨⟨hlt,io,e,l,hb,hlr,hget⟩,hfr⟩:=hg;refine aB hget (dY rfl (dW (fun c2=>⟨r1,w1,⟨hg0.1,by omega,by omega,by omega⟩,hf,by omega,fun k2 nm to n2 ak an anm aop aks vk vn vnm vop vks args th el r2 w2 h3 p3 g3=>?_⟩) (fun _=>hk l0 r1 w1 g hp hg0)));have hne:i0≠id:=by omega
     have ht3:h3.get i0= .tip (l0.length*17):=by rw [g3.2.2 _ hi1 hne];exact ht
     have hi3:i0<h3.next:=h1C hi1 g3.2.1;refine bE ht3 (aA (by simp only [h0Y,bY,h1S,true_and];omega) (.inr ⟨(k-1,r2,w2,h3.set i0 (.tip (l0.length*17+17)),l0++ [.mk k2 nm to n2 (.mk ak an anm aop aks) (.mk vk vn vnm vop vks) args th el],i0),rfl,rfl,rfl,?_,?_,rfl,⟨?_,hp.snoc p3,(hg0.trans g3).set hi0 hne,?_,hi0,hi3⟩,?_⟩))
     ·dsimp only;rw [a3Q,h1E,h3B];rfl
     ·dsimp only;rw [h0X _ (by omega),show((k:Int)-1)=((k-1:Nat):Int) by omega]
     ·dsimp only;rw [h1E];show k-1+(l0.length+1)<=10;omega
     ·dsimp only;rw [aH,h1E,h3B];rfl
     ·dsimp only;omega
   ·exact hk.elim
  ·intro xs h Q hk;unfold c1P at hk;split at hk
   ·rename_i id f dp;obtain⟨r,w,hr,hf,hd,hk⟩:=hk;refine aS hT (g5Z dd id f dp r w h Q) ?_;delta vI c7B d6G nT b6E b6F jR d6H c7C d6J d6K c7D d6I d6L c7E tI wW iI;obtain⟨hr,hr0,hw0,hw1⟩:=hr;obtain⟨hd0,hd3,hdd⟩:=hd;refine⟨r,w,hr,fun n h2 hn hz g1 g2=>⟨hf,⟨by decide,by decide⟩,⟨by decide,by decide⟩,?_⟩⟩;have hg:GN h id (r-1) w h2:=⟨g1,g2⟩;have hm0:=h3K (IntKind.i64.wrap (Int.tdiv n 16)) (show(1000:Int)≠0 by decide);have hm1:=h3J (IntKind.i64.wrap (Int.tdiv n 16)) (show(0:Int)<1000 by decide);have hk0:=h3K n (show(16:Int)≠0 by decide);have hk1:=h3J n (show(0:Int)<16 by decide);generalize IntKind.i64.wrap (Int.tdiv n 16)%1000=m at hm0 hm1⊢;generalize n%16=k0 at hk0 hk1⊢;obtain⟨hlt,io,e,l,hb,hlr,hget⟩:=g1;have hnl:0< (bN f).length:=by rcases hf with rfl|rfl<;>decide
    refine⟨?_,?_⟩
    ·refine dW (fun c1=>dW (fun c2=>dW (fun c3=>⟨(m,0,h2),rfl,rfl,rfl,rfl,rfl,rfl,rfl,rfl,rfl,⟨⟨hm0,hm1⟩,⟨by dsimp only;omega,by dsimp only;omega⟩,fun _=>by dsimp only;omega,fun _=>by dsimp only;omega,hg⟩,trivial⟩) (fun c3=>?_)) (fun c2=>?_)) (fun c1=>?_)
     all_goals
      have hp:2<dp->k0<8\/12<=k0:=by omega
      exact aB hget (bV rfl (dW (fun c4=>dW (fun _=>⟨(m,0,h2),rfl,rfl,rfl,rfl,rfl,rfl,rfl,rfl,rfl,⟨⟨hm0,hm1⟩,⟨by dsimp only;omega,by dsimp only;omega⟩,fun _=>by dsimp only;omega,fun _=>by dsimp only;omega,hg⟩,trivial⟩) (fun c5=>⟨(m,k0,h2),rfl,rfl,rfl,rfl,rfl,rfl,rfl,rfl,rfl,⟨⟨hm0,hm1⟩,⟨by dsimp only;omega,by dsimp only;omega⟩,fun _=>by dsimp only;omega,fun _=>by dsimp only;omega,hg⟩,trivial⟩)) (fun c4=>⟨(m,k0,h2),rfl,rfl,rfl,rfl,rfl,rfl,rfl,rfl,rfl,⟨⟨hm0,hm1⟩,⟨by dsimp only;omega,by dsimp only;omega⟩,fun _=>by dsimp only;omega,fun _=>by dsimp only;omega,hg⟩,trivial⟩)))
    rintro⟨m,k,g⟩ _ ⟨⟨hm0,hm1⟩,⟨hk0,hk1⟩,hkd,hkw,hg⟩;clear hget hlr hb hlt hz hn;dsimp only at hm0 hm1 hk0 hk1 hkd hkw hg⊢;have hdn:dp.toNat<=4:=by omega
    have t1:0<=Int.tmod m ((bN f).length:Int)/\Int.tmod m ((bN f).length:Int)< (bN f).length:=by
     rw [h3N hm0];exact⟨h3K _ (by omega),h3J _ (by omega)⟩
    have t2:Int.tmod m 2=0\/Int.tmod m 2=1:=by
     rw [h3N hm0];omega
    generalize Int.tmod m 2=m2 at t2⊢;generalize Int.tmod m ((bN f).length:Int)=ml at t1⊢;have nz:(!(((bN f).length:Int)==0))=true:=by simp only [h2K,beq_eq_false_iff_ne];omega
    have nil1: ∀q,fQ f (dp.toNat+1) q q w w []:=fun q=>fQ.nil hw1
    have z1:(E.mk 0 0 [] 0 []).dp=0:=g0Y;have z2:(E.mk 0 0 [] 0 []).cost=0:=e5T;have noA: ∀x∈ ([]:List E),x.dp<=5:=fun x hx=>by cases hx
    refine dW (fun c1=>aA nz (aP t1 (a3R (by omega) fun s hs=>?_))) (fun c1=>dW (fun c2=>aP (by omega) (a3R (l:=oW) (show m2.toNat*1<2 by omega) fun s hs=>?_)) (fun c2=>dW (fun c3=>?_) (fun c3=>dW (fun c4=>?_) (fun c4=>dW (fun c5=>?_) (fun c5=>dW (fun c6=>?_) (fun c6=>?_))))))
    ·refine⟨5,r-1,w,hg.1,hf,by omega,fun k1 n1 nm1 op1 ks1 r2 h3 p1 g3=>hk 1 s [] 0 0 0 [] 0 [] k1 n1 nm1 op1 ks1 [] [] [] r2 w h3 (xG.node (r0:=r-1) (.inl ⟨rfl,hs,rfl,rfl,rfl,p1.1,rfl,rfl,rfl⟩) hdn ⟨by omega,by have:=p1.2.1;omega,noA⟩ ⟨by omega,p1.2.2.1⟩ ?_ (nil1 r2) (nil1 r2) (by simp)) (hg.trans g3)⟩;have:=p1.2.2.2;simp only [Es.cost];omega
    ·refine⟨5,r-1,w,hg.1,hf,by omega,fun k1 n1 nm1 op1 ks1 r2 h3 p1 g3=>⟨5,r2,w,g3.1,hf,by omega,fun k2 n2 nm2 op2 ks2 r3 h4 p2 g4=>hk 2 s [] 0 k1 n1 nm1 op1 ks1 k2 n2 nm2 op2 ks2 [] [] [] r3 w h4 (xG.node (r0:=r-1) (r1:=r3) (.inr (.inl ⟨rfl,hs,rfl,rfl,p1.1,p2.1,rfl,rfl,rfl⟩)) hdn ⟨by have:=p1.2.1;omega,by have:=p2.2.1;omega,noA⟩ ⟨by omega,h2F p2.2.2.1 p1.2.2.1⟩ ?_ (nil1 r3) (nil1 r3) (by simp)) ((hg.trans g3).trans g4)⟩⟩;have:=p1.2.2.2;have:=p2.2.2.2;have:=p1.2.2.1;have:=p2.2.2.1;simp only [Es.cost];omega
    ·have hd2:dp<=2:=by omega
     have hwd:IntKind.i64.wrap (dp+1)=dp+1:=h0X _ (by omega);have hdt:(dp+1).toNat=dp.toNat+1:=by omega
     rw [hwd,hdt];refine⟨5,r-1,w,hg.1,hf,by omega,fun k1 n1 nm1 op1 ks1 r2 h3 p1 g3=>⟨r2,w,⟨g3.1,hw0,hw1⟩,hf,by omega,by omega,fun l r3 w3 h4 p2 g4=>⟨r3,w3,⟨g4.1,by have:=p2.2.2.2.1.1;omega,p2.2.2.2.1.2⟩,hf,by omega,by omega,fun l2 r4 w4 h5 p3 g5=>hk 3 [] [] 0 0 0 [] 0 [] k1 n1 nm1 op1 ks1 [] l l2 r4 w4 h5 (xG.node (r0:=r-1) (r1:=r2) (.inr (.inr (.inl ⟨rfl,rfl,rfl,rfl,rfl,p1.1,rfl⟩))) hdn ⟨by omega,by have:=p1.2.1;omega,noA⟩ ⟨by omega,p1.2.2.1⟩ ?_ p2 p3 (by simp)) (((hg.trans g3).trans g4).trans g5)⟩⟩⟩;have:=p1.2.2.2;simp only [Es.cost];omega
    ·have hd2:dp<=2:=by omega
     have hwd:IntKind.i64.wrap (dp+1)=dp+1:=h0X _ (by omega);have hdt:(dp+1).toNat=dp.toNat+1:=by omega
     have hww:w+1<=10:=by omega
     rw [hwd,hdt];obtain⟨⟨hlt,io,e,l,hb,hlr,hget⟩,hfr⟩:=hg;refine aB hget (bV rfl (aB hget (aA rfl ?_)));have gw:GN h id (r-1) (w+1) (g.set id (IObj.cells (List.take 1 [.vslice io e l.length 1 (l.map (IV.int .i64)),.int .i64 w]++ [.int .i64 (IntKind.i64.wrap (w+1))]++List.drop 2 [.vslice io e l.length 1 (l.map (IV.int .i64)),.int .i64 w]))):=⟨RN.wl hlt hb hlr (h0X _ (by omega)),hfr.trans HF.set⟩;generalize Heap.set g id (IObj.cells (List.take 1 [.vslice io e l.length 1 (l.map (IV.int .i64)),.int .i64 w]++ [.int .i64 (IntKind.i64.wrap (w+1))]++List.drop 2 [.vslice io e l.length 1 (l.map (IV.int .i64)),.int .i64 w]))=g2 at gw⊢;refine⟨5,r-1,w+1,gw.1,hf,by omega,fun k1 n1 nm1 op1 ks1 r2 h3 p1 g3=>⟨r2,w+1,⟨g3.1,by omega,hww⟩,hf,by omega,by omega,fun l r3 w3 h4 p2 g4=>hk 4 [] [] 0 0 0 [] 0 [] k1 n1 nm1 op1 ks1 [] l [] r3 w3 h4 (xG.node (r0:=r-1) (r1:=r2) (wa:=w+1) (.inr (.inr (.inr (.inl ⟨rfl,rfl,rfl,rfl,rfl,p1.1,rfl,rfl⟩)))) hdn ⟨by omega,by have:=p1.2.1;omega,noA⟩ ⟨by omega,p1.2.2.1⟩ ?_ p2 (fQ.nil p2.2.2.2.1.2) (by simp)) ((gw.trans g3).trans g4)⟩⟩;have:=p1.2.2.2;simp only [Es.cost];omega
    ·refine⟨5,r-1,w,hg.1,hf,by omega,fun k1 n1 nm1 op1 ks1 r2 h3 p1 g3=>hk 5 [] [] 0 0 0 [] 0 [] k1 n1 nm1 op1 ks1 [] [] [] r2 w h3 (xG.node (r0:=r-1) (r1:=r2) (.inr (.inr (.inr (.inr (.inl ⟨rfl,rfl,rfl,rfl,rfl,p1.1,rfl,rfl,rfl⟩))))) hdn ⟨by omega,by have:=p1.2.1;omega,noA⟩ ⟨by omega,p1.2.2.1⟩ ?_ (nil1 r2) (nil1 r2) (by simp)) (hg.trans g3)⟩;have:=p1.2.2.2;simp only [Es.cost];omega
    ·refine aA nz (aP t1 (a3R (by omega) fun s hs=>aP (by omega) ?_));rcases t2 with rfl|rfl
     ·refine hU rfl (brT (by decide) ⟨5,r-1,w,hg.1,hf,by omega,fun k1 n1 nm1 op1 ks1 r2 h3 p1 g3=>brT (by decide) ⟨5,r2,w,g3.1.push,hf,by omega,fun k2 n2 nm2 op2 ks2 r3 h4 p2 g4=>?_⟩⟩);have hid:=hg.1.1;have hid3:id<h3.next:=g3.1.1;have hne:h3.next≠id:=by omega
      have htip:h4.get h3.next= .tip 5:=by
       rw [g4.2.2 _ (h1G _) hne];exact aR
      refine bE htip (aA rfl (nG (by decide) ?_));refine hk 6 s [102] 0 0 0 [] 0 [] 0 0 [] 0 [] [.mk k1 n1 nm1 op1 ks1,.mk k2 n2 nm2 op2 ks2] [] [] r3 w _ (xG.node (r0:=r-1) (r1:=r3) (.inr (.inr (.inr (.inr (.inr (.inl ⟨rfl,hs,.inl ⟨rfl,rfl⟩,rfl,rfl,rfl,⟨p1.1,p2.1,trivial⟩,rfl,rfl⟩)))))) hdn ⟨by omega,by omega,fun x hx=>?_⟩ ⟨by omega,h2F p2.2.2.1 p1.2.2.1⟩ ?_ (nil1 r3) (nil1 r3) (by simp)) (((hg.trans g3).push.trans g4).set ?_ hne)
      ·rcases h2O.1 hx with rfl|hx
       ·have:=p1.2.1;omega
       ·rw [h2J.1 hx];have:=p2.2.1;omega
      ·have:=p1.2.2.2;have:=p2.2.2.2;have:=p1.2.2.1;have:=p2.2.2.1;simp only [Es.cost];omega
      ·have:=hg.2.1;have:=g3.2.1;omega
     ·refine hU rfl (brT (by decide) ⟨5,r-1,w,hg.1,hf,by omega,fun k1 n1 nm1 op1 ks1 r2 h3 p1 g3=>nG (by decide) ?_⟩);refine hk 6 s [103] 0 0 0 [] 0 [] 0 0 [] 0 [] [.mk k1 n1 nm1 op1 ks1] [] [] r2 w _ (xG.node (r0:=r-1) (r1:=r2) (.inr (.inr (.inr (.inr (.inr (.inl ⟨rfl,hs,.inr ⟨rfl,rfl⟩,rfl,rfl,rfl,⟨p1.1,trivial⟩,rfl,rfl⟩)))))) hdn ⟨by omega,by omega,fun x hx=>?_⟩ ⟨by omega,p1.2.2.1⟩ ?_ (nil1 r2) (nil1 r2) (by simp)) (hg.trans g3).push
      ·rw [h2J.1 hx];have:=p1.2.1;omega
      ·have:=p1.2.2.2;simp only [Es.cost];omega
    ·exact hk 7 [] [] m 0 0 [] 0 [] 0 0 [] 0 [] [] [] [] (r-1) w g (xG.node (r0:=r-1) (r1:=r-1) (.inr (.inr (.inr (.inr (.inr (.inr ⟨rfl,rfl,rfl,⟨hm0,hm1⟩,rfl,rfl,rfl,rfl,rfl⟩)))))) hdn ⟨by omega,by omega,noA⟩ ⟨by omega,h1D _⟩ (by simp only [Es.cost];omega) (nil1 _) (nil1 _) (by simp)) hg
   ·exact hk.elim
def e9H:=bB 80 (fun xs h K=> ∃d,a4K d xs h K) b6D
theorem f3U:aT env e9H:=aI (fun xs h Q hk=>hk.elim fun d hk=>(gSt d).1 xs h Q hk) (d6E)
def f3V:=bB 152 (fun xs h K=> ∃d,c1P d xs h K) e9H
theorem e9I:aT env f3V:=aI (fun xs h Q hk=>hk.elim fun d hk=>(gSt d).2 xs h Q hk) (f3U)
def f3W(xs:List IV)(h:Heap)(K:KT):Prop:=match xs with
 | [.vslice none e0 n0 1 c0]=> ∃l:List Int,(n0=l.length/\c0=l.map (IV.int .i64))/\(∀x∈l,bR x)/\∀(la lb:Int)(b0:List S)(v0:E)(b1:List S)(v1:E),PP la lb b0 v0 b1 v1->K (.agg [.vslice none 0 2 2 (c1A la lb),.vslice none 0 2 9 (fnC b0 v0 b1 v1)]) h
 |_=>False
def d6M(h2:Heap):=h2.push (IObj.cells [IV.str [102],IV.vslice none 1 2 1 [IV.str [120],IV.str [121]],IV.vslice none 1 2 1 [IV.str [105],IV.str [106]],IV.nilslice,iI 0,iI 0,IV.str [],iI 0,IV.nilslice,IV.str [103],IV.vslice none 1 1 1 [IV.str [110]],IV.vslice none 1 1 1 [IV.str [105]],IV.nilslice,iI
 0,iI 0,IV.str [],iI 0,IV.nilslice])
def f3X(n:Int):=[IV.str [97],iI (wW ((1:Int)+n% (4:Int))),IV.str [98],iI (wW ((1:Int)+wW (Int.tdiv n (4:Int))% (4:Int)))]
def d6N(k n_1 op:Int)(nm:List UInt8)(ks:List E):=[iI k,iI n_1,IV.str nm,iI op,IV.vslice none 0 ks.length 5 (aW ks)]
def zS:=(0:Nat)+1
abbrev d6O(d:Nat):=(0:Int)<=1/\(1:Int)<=4/\3< (↑d:Int)
abbrev d6P:=(0:Int)<4/\(4:Int)<4611686018427387904
def f3Y:=Heap.mk (PT.node PT.nil (some (IObj.cells [IV.vslice none 1 0 1 [],iI 0])) PT.nil) zS
abbrev d6Q:=(0:Int)=0\/ (0:Int)=1
abbrev d6R:=(1:Int)=0\/ (1:Int)=1
def f3Z(n:Int)(r4:List IV):=[IV.vslice none 0 2 2 (f3X n),IV.vslice none 0 2 9 (List.take 18 r4)]
def f4A(n:Int)(r9:List IV):=[IV.vslice none 0 2 2 (f3X n),IV.vslice none 0 2 9 (List.take 18 r9)]
def lJ(h2:Heap):=h2.next
abbrev f4B(d:Nat):=(0:Int)<=0/\(0:Int)<=3/\7< (↑d:Int)
abbrev f4C(d:Nat):=(0:Int)<=1/\(1:Int)<=3/\5< (↑d:Int)
abbrev f4D:=(0:Int)<=5/\(5:Int)<=10
abbrev f4E:=(0:Int)<=3/\(3:Int)<=10
def f4F(k op n_2:Int)(nm:List UInt8)(ks:List E):=[iI k,iI n_2,IV.str nm,iI op,IV.vslice none 0 ks.length 5 (aW ks)]
theorem g6A(l:List Int)(e0:Nat)(h:Heap)(Q:KT):dF (aV f3V) env 34 dV bT bT [.vslice none e0 (l).length 1 ((l).map (IV.int .i64))] h Q=(
 aC (aN [IV.vslice none 0 l.length 1 (List.map (IV.int .i64) l)]) (aC (true&& (decide (0<=if 60< (↑l.length:Int)then(60:Int)else(↑l.length:Int)) &&decide ((if 60< (↑l.length:Int)then(60:Int)else(↑(l.length):Int))<=(↑l.length:Int)))) (aM (Nat.beq (Int.toNat (if 60< (↑l.length:Int)then(60:Int)else(↑l.length:Int))-0) (0:Nat)) (∃(r:Nat),∃(w:Int),RN f3Y (0:Nat) r w/\∀(n:Int)(h2:Heap),bR n->(r=0->n=0)->RN h2 (0:Nat) (r-1) w->HF (0:Nat) f3Y h2->d6P/\d6P/\∃(d r:Nat),∃(w:Int),(RN (d6M h2) (0:Nat) r w/\0<=w/\w<=10)/\d6Q/\(f4B d)/\f4D/\∀(l:List M10.S)(r2:Nat)(w2:Int)(h2_1:Heap),fQ (0:Int) (0:Nat) r r2 w w2 l->GN (d6M h2) (0:Nat) r2 w2 h2_1->aF h2_1 (lJ h2) fun r0=>aC (Nat.ble 4 r0.length) (∃(d r:Nat),∃(w:Int),RN (h2_1.set (lJ h2) (IObj.cells (List.take 3 r0++ [IV.vslice none 0 l.length 17 (aX l)]++List.drop 4 r0))) (0:Nat) r w/\d6Q/\(d6O d)/\∀(k n_1:Int)(nm:List UInt8)(op:Int)(ks:List E)(r2:Nat)(h2_2:Heap),gY (0:Int) (3:Nat) r r2 (E.mk k n_1 nm op ks)->GN (h2_1.set (lJ h2) (IObj.cells (List.take 3 r0++ [IV.vslice none 0 l.length 17 (aX l)]++List.drop 4 r0))) (0:Nat) r2 w h2_2->aF h2_2 (lJ h2) fun r1=>aC (Nat.ble 9 r1.length) (∃(d r:Nat),∃(w:Int),(RN (h2_2.set (lJ h2) (IObj.cells (List.take 4 r1++(d6N k n_1 op nm ks)++List.drop 9 r1))) (0:Nat) r w/\0<=w/\w<=10)/\d6R/\(f4C d)/\f4E/\∀(l:List M10.S)(r2:Nat)(w2:Int)(h2_3:Heap),fQ (1:Int) (1:Nat) r r2 w w2 l->GN (h2_2.set (lJ h2) (IObj.cells (List.take 4 r1++(d6N k n_1 op nm ks)++List.drop 9 r1))) (0:Nat) r2 w2 h2_3->aF h2_3 (lJ h2) fun r2=>aC (Nat.ble 13 r2.length) (∃(d r:Nat),∃(w:Int),RN (h2_3.set (lJ h2) (IObj.cells (List.take 12 r2++ [IV.vslice none 0 l.length 17 (aX l)]++List.drop 13 r2))) (0:Nat) r w/\d6R/\(d6O d)/\∀(k n_2:Int)(nm:List UInt8)(op:Int)(ks:List E)(r2_1:Nat)(h2_4:Heap),gY (1:Int) (3:Nat) r r2_1 (E.mk k n_2 nm op ks)->GN (h2_3.set (lJ h2) (IObj.cells (List.take 12 r2++ [IV.vslice none 0 l.length 17 (aX l)]++List.drop (13:Nat) r2))) (0:Nat) r2_1 w h2_4->aF h2_4 (lJ h2) fun r3=>aC (Nat.ble 18 r3.length) (aF (h2_4.set (lJ h2) (IObj.cells (List.take 13 r3++(f4F k op n_2 nm ks)++List.drop 18 r3))) (lJ h2) fun r4=>aC (true&&Nat.ble (18:Nat) r4.length) (aC (aN [IV.agg (f3Z n r4)]) (Q (.agg (f3Z n r4)) h))))))) (aC (Nat.ble (((0:Nat)+(Int.toNat (if 60< (↑l.length:Int)then(60:Int)else(↑l.length:Int))-0))*8) (140737488355328:Nat)) (∃(r:Nat),∃(w:Int),RN (Heap.mk (PT.node (PT.node PT.nil (some (IObj.cells [IV.vslice (some (0:Nat)) (((0:Nat)+(Int.toNat (if 60< (↑l.length:Int)then(60:Int)else(↑l.length:Int))-0))*1) ((0:Nat)+(Int.toNat (if 60< (↑l.length:Int)then(60:Int)else(↑l.length:Int))-0)) 1 ([]++List.take ((Int.toNat (if 60< (↑l.length:Int)then(60:Int)else(↑l.length:Int))-0)*1) (List.drop 0 (List.map (IV.int .i64) l))),iI 0])) PT.nil) (some (IObj.tip (((0:Nat)+(Int.toNat (if 60< (↑l.length:Int)then(60:Int)else(↑l.length:Int))-0))*1))) PT.nil) ((0:Nat)+1+1)) zS r w/\∀(n:Int)(h2:Heap),bR n->(r=0->n=0)->RN h2 zS (r- (1:Nat)) w->HF zS (Heap.mk (PT.node (PT.node PT.nil (some (IObj.cells [IV.vslice (some (0:Nat)) (((0:Nat)+(Int.toNat (if 60< (↑l.length:Int)then(60:Int)else(↑l.length:Int))-0))*1) ((0:Nat)+(Int.toNat (if 60< (↑l.length:Int)then(60:Int)else(↑l.length:Int))-0)) 1 ([]++List.take ((Int.toNat (if 60< (↑l.length:Int)then(60:Int)else(↑l.length:Int))-0)*1) (List.drop 0 (List.map (IV.int .i64) l))),iI (0:Int)])) PT.nil) (some (IObj.tip (((0:Nat)+(Int.toNat (if 60< (↑l.length:Int)then(60:Int)else(↑l.length:Int))-0))*1))) PT.nil) ((0:Nat)+1+1)) h2->d6P/\d6P/\∃(d r:Nat),∃(w:Int),(RN (d6M h2) zS r w/\0<=w/\w<=10)/\d6Q/\(f4B d)/\f4D/\∀(l:List M10.S)(r2:Nat)(w2:Int)(h2_1:Heap),fQ (0:Int) (0:Nat) r r2 w w2 l->GN (d6M h2) zS r2 w2 h2_1->aF h2_1 (lJ h2) fun r5=>aC (Nat.ble 4 r5.length) (∃(d r:Nat),∃(w:Int),RN (h2_1.set (lJ h2) (IObj.cells (List.take 3 r5++ [IV.vslice none 0 l.length 17 (aX l)]++List.drop 4 r5))) zS r w/\d6Q/\(d6O d)/\∀(k n_1:Int)(nm:List UInt8)(op:Int)(ks:List E)(r2:Nat)(h2_2:Heap),gY (0:Int) (3:Nat) r r2 (E.mk k n_1 nm op ks)->GN (h2_1.set (lJ h2) (IObj.cells (List.take 3 r5++ [IV.vslice none 0 l.length 17 (aX l)]++List.drop 4 r5))) zS r2 w h2_2->aF h2_2 (lJ h2) fun r6=>aC (Nat.ble 9 r6.length) (∃(d:Nat),∃(r:Nat),∃(w:Int),(RN (h2_2.set (lJ h2) (IObj.cells (List.take 4 r6++(d6N k n_1 op nm ks)++List.drop 9 r6))) zS r w/\0<=w/\w<=10)/\d6R/\(f4C d)/\f4E/\∀(l:List M10.S)(r2:Nat)(w2:Int)(h2_3:Heap),fQ (1:Int) (1:Nat) r r2 w w2 l->GN (h2_2.set (lJ h2) (IObj.cells (List.take 4 r6++(d6N k n_1 op nm ks)++List.drop 9 r6))) zS r2 w2 h2_3->aF h2_3 (lJ h2) fun r7=>aC (Nat.ble 13 r7.length) (∃(d r:Nat),∃(w:Int),RN (h2_3.set (lJ h2) (IObj.cells (List.take 12 r7++ [IV.vslice none 0 l.length 17 (aX l)]++List.drop 13 r7))) zS r w/\d6R/\(d6O d)/\∀(k n_2:Int)(nm:List UInt8)(op:Int)(ks:List E)(r2:Nat)(h2_4:Heap),gY (1:Int) (3:Nat) r r2 (E.mk k n_2 nm op ks)->GN (h2_3.set (lJ h2) (IObj.cells (List.take 12 r7++ [IV.vslice none 0 l.length 17 (aX l)]++List.drop 13 r7))) zS r2 w h2_4->aF h2_4 (lJ h2) fun r8=>aC (Nat.ble 18 r8.length) (aF (h2_4.set (lJ h2) (IObj.cells (List.take 13 r8++(f4F k op n_2 nm ks)++List.drop 18 r8))) (lJ h2) fun r9=>aC (true&&Nat.ble 18 r9.length) (aC (aN [IV.agg (f4A n r9)]) (Q (.agg (f4A n r9)) h))))))))))):=by kernel_rfl
theorem g1R: ∀xs h Q,f3W xs h Q->aU env 34 xs h Q:=by
 intro xs h Q hk;unfold f3W at hk;split at hk
 ·rename_i e0 n0 c0;obtain⟨l,⟨rfl,rfl⟩,hb,hk⟩:=hk;refine aS (e9I) (g6A l e0 h Q) ?_;delta d6M f3X d6N zS d6O d6P f3Y d6Q d6R f3Z f4A lJ f4B f4C f4D f4E f4F wW iI;have hlen:l.length<=9223372036854775807\/True:= .inr trivial;refine aA (by simp only [aN,bL,cH,h1L]) (aA (by simp only [h2G,h0Y,decide_eq_true_eq];split<;>omega) ?_);obtain⟨K,hK,hK1,hK2⟩: ∃K:Nat,(Int.toNat (if(60:Int)< (l.length:Int)then 60 else(l.length:Int))-0)=K/\K<=60/\K<=l.length:=⟨_,rfl,by split<;>omega,by split<;>omega⟩
  rw [hK];refine aD (fun c=>?_) (fun c=>aA (by rw [h1S];omega) ?_)
  ·have hrn:RN (Heap.mk (PT.node PT.nil (some (IObj.cells [IV.vslice none 1 0 1 [],IV.int .i64 0])) PT.nil) (0+1)) 0 0 0:=⟨Nat.one_pos,none,1,[],fun x hx=>(by cases hx),rfl,rfl⟩;refine⟨0,0,hrn,fun n h2 hn hz g1 g2=>⟨⟨by decide,by decide⟩,⟨by decide,by decide⟩,10,0-1,0,⟨g1.push,by decide,by decide⟩,.inl rfl,⟨by decide,by decide,by decide⟩,⟨by decide,by decide⟩,fun b0 r1 w1 h3 p1 q1=>?_⟩⟩;have hne:h2.next≠0:=h3H g1.1;have e1:=q1.2.2 h2.next (h1G _) hne;rw [aR]at e1;have l3:h2.next<h3.next:=h1C (h1G _) q1.2.1;refine aB e1 (aA rfl ⟨5,r1,w1,q1.1.set hne,.inl rfl,⟨by decide,by decide,by decide⟩,fun k n1 nm op ks r2 h4 p2 q2=>?_⟩);have e2:=q2.2.2 h2.next l3 hne;rw [aH]at e2;have l4:h2.next<h4.next:=h1C l3 q2.2.1;have w01:0<=w1/\w1<=10:=by have:=p1.2.2.2.1;omega
   refine aB e2 (aA rfl ⟨10,r2,w1,⟨q2.1.set hne,w01⟩,.inr rfl,⟨by decide,by decide,by decide⟩,⟨by decide,by decide⟩,fun b1 r3 w3 h5 p3 q3=>?_⟩);have e3:=q3.2.2 h2.next l4 hne;rw [aH]at e3;have l5:h2.next<h5.next:=h1C l4 q3.2.1;refine aB e3 (aA rfl ⟨5,r3,w3,q3.1.set hne,.inr rfl,⟨by decide,by decide,by decide⟩,fun k2 n2 nm2 op2 ks2 r4 h6 p4 q4=>?_⟩);have e4:=q4.2.2 h2.next l5 hne;rw [aH]at e4;refine aB e4 (aA rfl (aB aH (aA rfl ?_)));have m0:=h3K n (show(4:Int)≠0 by decide);have m1:=h3J n (show(0:Int)<4 by decide);have m2:=h3K (IntKind.i64.wrap (Int.tdiv n 4)) (show(4:Int)≠0 by decide);have m3:=h3J (IntKind.i64.wrap (Int.tdiv n 4)) (show(0:Int)<4 by decide);have pp:PP (IntKind.i64.wrap (1+n%4)) (IntKind.i64.wrap (1+IntKind.i64.wrap (Int.tdiv n 4)%4)) b0 (.mk k n1 nm op ks) b1 (.mk k2 n2 nm2 op2 ks2):=by
    refine⟨⟨?_,?_,?_,?_⟩,GB.mk0 p1 p2 (by omega) (h3P _),GB.mk0 p3.dp0 p4 (by have:=p1.2.2.2.2.2.2;have:=p2.2.2.1;omega) w01.1⟩
    all_goals rw [h0X _ (by omega)];omega
   exact aA (PP.pure pp) (hk _ _ b0 (.mk k n1 nm op ks) b1 (.mk k2 n2 nm2 op2 ks2) pp)
  ·have hrn:RN (Heap.mk (PT.node (PT.node PT.nil (some (IObj.cells [IV.vslice (some 0) ((0+K)*1) (0+K) 1 ([]++List.take (K*1) (List.drop 0 (List.map (IV.int .i64) l))),IV.int .i64 0])) PT.nil) (some (IObj.tip ((0+K)*1))) PT.nil) (0+1+1)) (0+1) K 0:=by
    refine⟨h1G _,some 0,(0+K)*1,l.take K,fun x hx=>hb x (h4X hx),by rw [h1Y];omega,?_⟩;show(IObj.cells _:IObj)=_;rw [h1Y,show min K l.length=K by omega,h6P];simp
   refine⟨K,0,hrn,fun n h2 hn hz g1 g2=>⟨⟨by decide,by decide⟩,⟨by decide,by decide⟩,10,K-1,0,⟨g1.push,by decide,by decide⟩,.inl rfl,⟨by decide,by decide,by decide⟩,⟨by decide,by decide⟩,fun b0 r1 w1 h3 p1 q1=>?_⟩⟩;have hne:h2.next≠0+1:=h3H g1.1;have e1:=q1.2.2 h2.next (h1G _) hne;rw [aR]at e1;have l3:h2.next<h3.next:=h1C (h1G _) q1.2.1;refine aB e1 (aA rfl ⟨5,r1,w1,q1.1.set hne,.inl rfl,⟨by decide,by decide,by decide⟩,fun k n1 nm op ks r2 h4 p2 q2=>?_⟩);have e2:=q2.2.2 h2.next l3 hne;rw [aH]at e2;have l4:h2.next<h4.next:=h1C l3 q2.2.1;have w01:0<=w1/\w1<=10:=by have:=p1.2.2.2.1;omega
   refine aB e2 (aA rfl ⟨10,r2,w1,⟨q2.1.set hne,w01⟩,.inr rfl,⟨by decide,by decide,by decide⟩,⟨by decide,by decide⟩,fun b1 r3 w3 h5 p3 q3=>?_⟩);have e3:=q3.2.2 h2.next l4 hne;rw [aH]at e3;have l5:h2.next<h5.next:=h1C l4 q3.2.1;refine aB e3 (aA rfl ⟨5,r3,w3,q3.1.set hne,.inr rfl,⟨by decide,by decide,by decide⟩,fun k2 n2 nm2 op2 ks2 r4 h6 p4 q4=>?_⟩);have e4:=q4.2.2 h2.next l5 hne;rw [aH]at e4;refine aB e4 (aA rfl (aB aH (aA rfl ?_)));have m0:=h3K n (show(4:Int)≠0 by decide);have m1:=h3J n (show(0:Int)<4 by decide);have m2:=h3K (IntKind.i64.wrap (Int.tdiv n 4)) (show(4:Int)≠0 by decide);have m3:=h3J (IntKind.i64.wrap (Int.tdiv n 4)) (show(0:Int)<4 by decide);have pp:PP (IntKind.i64.wrap (1+n%4)) (IntKind.i64.wrap (1+IntKind.i64.wrap (Int.tdiv n 4)%4)) b0 (.mk k n1 nm op ks) b1 (.mk k2 n2 nm2 op2 ks2):=by
    refine⟨⟨?_,?_,?_,?_⟩,GB.mk0 p1 p2 (by omega) (h3P _),GB.mk0 p3.dp0 p4 (by have:=p1.2.2.2.2.2.2;have:=p2.2.2.1;omega) w01.1⟩
    all_goals rw [h0X _ (by omega)];omega
   exact aA (PP.pure pp) (hk _ _ b0 (.mk k n1 nm op ks) b1 (.mk k2 n2 nm2 op2 ks2) pp)
 ·exact hk.elim
def f4G:=bB 34 f3W f3V
theorem e9J:aT env f4G:=aI g1R (e9I)
def g1S(l:List (List UInt8))(s:List UInt8):Inv':=hJ Nat (fun i=>[(0,.v (.vslice none 0 l.length 1 (l.map IV.str))),(1,.v (.str s)),(5,.v (.int .i64 (i:Int)))]) (fun _=>[]) (fun _=>Heap.empty) (fun i=>i<=l.length/\s∉l.take i) (fun i=>l.length-i)
def d6S(xs:List IV)(h:Heap)(K:KT):Prop:=match xs with
 | [.vslice none 0 m 1 c,.str s]=> ∃l:List (List UInt8),(m=l.length/\c=l.map IV.str)/\l.length<=1000/\K (.bool (decide (s∈l))) h
 |_=>False
theorem g1T(l:List Bs)(s:Bs)(h:Heap)(Q:KT):dF (aV f4G) env 201 dV (tK 3 (g1S l s)) bT [.vslice none 0 l.length 1 (l.map IV.str),.str s] h Q=(
 aC (aN [IV.vslice none 0 l.length 1 (List.map IV.str l),IV.str s]) ((∃(x:Nat),some (TV.v (.vslice none 0 l.length 1 (List.map IV.str l)))=some (TV.v (.vslice none 0 l.length 1 (List.map IV.str l)))/\some (TV.v (.str s))=some (TV.v (.str s))/\tI 0=tI (↑x:Int)/\Heap.mk PT.nil 0=Heap.mk PT.nil 0/\(x<=l.length/\¬s∈List.take x l)/\True)/\∀(x:Nat)(b:FF),x<=l.length/\¬s∈List.take x l->aM (decide ((↑x:Int)< (↑l.length:Int))) (aC (decide (0<=(↑x:Int)) &&decide ((↑x:Int)< (↑l.length:Int))) (bZ (List.map IV.str l) ((↑x:Int).toNat*1) fun(s0:List UInt8)=>aM (s0==s) (Q (.bool true) h) (∃(x_1:Nat),some (TV.v (.vslice none 0 l.length 1 (List.map IV.str l)))=some (TV.v (.vslice none 0 l.length 1 (List.map IV.str l)))/\some (TV.v (.str s))=some (TV.v (.str s))/\tI (wW ((↑x:Int)+1))=tI (↑x_1:Int)/\Heap.mk PT.nil 0=Heap.mk PT.nil 0/\(x_1<=l.length/\¬s∈List.take x_1 l)/\l.length-x_1<l.length-x))) (Q (.bool false) h))):=by kernel_rfl
theorem g1U: ∀xs h Q,d6S xs h Q->aU env 201 xs h Q:=by
 intro xs h Q hk;unfold d6S at hk;split at hk
 ·rename_i m c s;obtain⟨l,⟨rfl,rfl⟩,hl,hk⟩:=hk;refine aS (e9J) (g1T l s h Q) ?_;delta tI wW;refine aA (by simp only [aN,bL,bG,bW,bP,cI,h1L]) ⟨⟨0,rfl,rfl,rfl,rfl,⟨h1N _,by simp⟩,trivial⟩,?_⟩;rintro i _ ⟨hi,hn⟩;refine dW (fun c=>?_) (fun c=>?_)
  ·have hlt:i<l.length:=by omega
   refine aP (by omega) (hU (b:=l[i]) (by rw [h0Z,h1W,h2A,h0U hlt];rfl) (aD (fun c2=>?_) (fun c2=>⟨i+1,rfl,rfl,(by(try dsimp only);rw [h0X _ (by omega)];rfl),rfl,⟨hlt,?_⟩,by omega⟩)))
   ·rw [beq_iff_eq]at c2;have e:s∈l:=c2▸h1B hlt
    rwa [decide_eq_true e]at hk
   ·rw [beq_eq_false_iff_ne]at c2;rw [h1J hlt,h2S,h2J];exact fun q=>q.elim hn fun q=>c2 q.symm
  ·rw [h1H (by omega)]at hn
   rwa [decide_eq_false hn]at hk
 ·exact hk.elim
def e9K:=bB 201 d6S f4G
theorem f4H:aT env e9K:=aI g1U (e9J)
def f4I(xs:List IV)(h:Heap)(K:KT):Prop:=match xs with
 | [.str s]=>s∈nH/\K (.bool true) h
 |_=>False
theorem g6B: ∀xs h Q,f4I xs h Q->aU env 198 xs h Q:=by
 intro xs h Q hk;unfold f4I at hk;split at hk
 ·rename_i s;obtain⟨hs,hk⟩:=hk;simp only [nH,h2O,h4G,or_false]at hs;rcases hs with rfl|rfl|rfl|rfl|rfl|rfl|rfl|rfl|rfl<;>exact⟨60,_,h,by kernel_rfl,hk⟩
 ·exact hk.elim
def f4J:=bB 198 f4I e9K
theorem e9L:aT env f4J:=aI g6B (f4H)
def f4K(xs:List IV)(h:Heap)(K:KT):Prop:=match xs with
 | [.agg [.vslice none 0 2 2 ac,.vslice none 0 2 9 fc],.str s]=>lD ac fc/\(s=[102] \/s=[103])/\K (.int .i64 (if s=[102]then 0 else 1)) h
 |_=>False
theorem g6C(la lb:Int)(b0:List S)(uk un:Int)(unm:List UInt8)(uop:Int)(uks:List E)(b1:List S)(wk wn:Int)(wnm:List UInt8)(wop:Int)(wks:List E)(s:List UInt8)(h:Heap)(Q:KT):dF (aV f4J) env 202 (fun k=>if k=3 then 3 else 0) bT bT [.agg [.vslice none 0 2 2 [.str [97],.int .i64 la,.str [98],.int .i64 lb],.vslice none 0 2 9 [.str [102],.vslice none 1 2 1 [.str [120],.str [121]],.vslice none 1 2 1 [.str [105],.str [106]],.vslice none 0 b0.length 17 (aX b0),.int .i64 uk,.int .i64 un,.str unm,.int .i64 uop,.vslice none 0 uks.length 5 (aW uks),.str [103],.vslice none 1 1 1 [.str [110]],.vslice none 1 1 1 [.str [105]],.vslice none 0 b1.length 17 (aX b1),.int .i64 wk,.int .i64 wn,.str wnm,.int .i64 wop,.vslice none 0 wks.length 5 (aW wks)]],.str s] h Q=(
 aC (aN [IV.agg [IV.vslice none 0 2 2 [IV.str [97],iI la,IV.str [98],iI lb],IV.vslice none 0 2 9 [IV.str [102],IV.vslice none 1 2 1 [IV.str [120],IV.str [121]],IV.vslice none 1 2 1 [IV.str [105],IV.str [106]],IV.vslice none 0 b0.length 17 (aX b0),iI uk,iI un,IV.str unm,iI uop,IV.vslice none 0 uks.length 5 (aW uks),IV.str [103],IV.vslice none 1 1 1 [IV.str [110]],IV.vslice none 1 1 1 [IV.str [105]],IV.vslice none 0 b1.length 17 (aX b1),iI wk,iI wn,IV.str wnm,iI wop,IV.vslice none 0 wks.length 5 (aW wks)]],IV.str s]) (aM ([102]==s) (Q (.int .i64 0) h) (aM ([103]==s) (Q (.int .i64 1) h) (Q (.int .i64 (-1)) h)))):=by kernel_rfl
theorem g6D: ∀xs h Q,f4K xs h Q->aU env 202 xs h Q:=by
 intro xs h Q hk;unfold f4K at hk;split at hk
 ·rename_i ac fc s;obtain⟨⟨la,lb,b0,⟨uk,un,unm,uop,uks⟩,b1,⟨wk,wn,wnm,wop,wks⟩,rfl,rfl⟩,hs,hk⟩:=hk;refine aS (e9L) (g6C la lb b0 uk un unm uop uks b1 wk wn wnm wop wks s h Q) ?_;delta iI;refine aA (by simp only [aN,bL,bG,bW,bP,cI,h1L]) ?_;rcases hs with rfl|rfl
  ·exact aD (fun _=>hk) (fun c=>absurd c (by decide))
  ·exact aD (fun c=>absurd c (by decide)) (fun _=>aD (fun _=>hk) (fun c=>absurd c (by decide)))
 ·exact hk.elim
def f4L:=bB 202 f4K f4J
theorem e9M:aT env f4L:=aI g6D (e9L)
def d6T(xs:List IV)(h:Heap)(K:KT):Prop:=match xs with
 | [.int .i64 op]=>K (.bool (decide (4<=op/\op<=18))) h
 |_=>False
theorem g1V(op:Int)(h:Heap)(Q:KT):dF (aV f4L) env 220 dV bT bT [.int .i64 op] h Q=(
 aM (decide (op>=4)) (Q (.bool (decide (op<=18))) h) (Q (.bool false) h)):=by kernel_rfl
theorem g1W: ∀xs h Q,d6T xs h Q->aU env 220 xs h Q:=by
 intro xs h Q hk;unfold d6T at hk;split at hk
 ·rename_i op;refine aS (e9M) (g1V op h Q) ?_;refine dW (fun c=>cO hk ?_) (fun c=>cO hk ?_)
  ·congr 1
   rw [decide_eq_decide];omega
  ·congr 1
   rw [decide_eq_false_iff_not];omega
 ·exact hk.elim
def d6U:=bB 220 d6T f4L
theorem d6V:aT env d6U:=aI g1W (e9M)
def d6W(xs:List IV)(h:Heap)(K:KT):Prop:=match xs with
 | [.agg [.int .i64 k,.int .i64 n,.str nm,.int .i64 op,.vslice none 0 m 5 c]]=>(k=0/\n=0/\nm=[]/\op=0/\m=0/\c=[])/\K (.bool true) h
 |_=>False
theorem g1X(k n:Int)(nm:List UInt8)(op:Int)(m:Nat)(c:List IV)(h:Heap)(Q:KT):dF (aV d6U) env 230 dV bT bT [.agg [.int .i64 k,.int .i64 n,.str nm,.int .i64 op,.vslice none 0 m 5 c]] h Q=(
 aC (aN [IV.agg [.int .i64 k,iI n,IV.str nm,iI op,IV.vslice none 0 m 5 c]]) (aM (k==0) (aM (n==0) (aM (nm==[]) (aM (op==0) (Q (.bool ((↑m:Int)==0)) h) (Q (.bool false) h)) (Q (.bool false) h)) (Q (.bool false) h)) (Q (.bool false) h))):=by kernel_rfl
theorem g1Y: ∀xs h Q,d6W xs h Q->aU env 230 xs h Q:=by
 intro xs h Q hk;unfold d6W at hk;split at hk
 ·rename_i k n nm op m c;refine aS (d6V) (g1X k n nm op m c h Q) ?_;delta iI;obtain⟨⟨rfl,rfl,rfl,rfl,rfl,rfl⟩,hk⟩:=hk;exact aA rfl hk
 ·exact hk.elim
def d6X:=bB 230 d6W d6U
theorem d6Y:aT env d6X:=aI g1Y (d6V)
def g1Z(k n:Int)(nm:List UInt8)(op:Int)(ks:List E):Inv':=hJ (Nat×Nat) (fun x=>[(1,.l 1 0),(3,.v (.int .i64 (x.2:Int))),(4,.v (.int .i64 (x.1:Int)))]) (fun _=>[(1,[.int .i64 k,.int .i64 n,.str nm,.int .i64 op,.vslice none 0 ks.length 5 (aW ks)])]) (fun _=>Heap.empty) (fun x=>x.1<=ks.length/\x.2=Es.dp (ks.take x.1)) (fun x=>ks.length-x.1)
def b6G(d:Nat)(xs:List IV)(h:Heap)(K:KT):Prop:=match xs with
 | [.agg [.int .i64 k,.int .i64 n,.str nm,.int .i64 op,.vslice none 0 m 5 c]]=> ∃(ks:List E)(f:Int),(m=ks.length/\c=aW ks)/\(Es.dp ks<d/\Es.dp ks<=1000/\ks.length<=3/\Es.wf f ks)/\K (.int .i64 (Es.dp ks:Int)) h
 |_=>False
def a8Y(k n op:Int)(nm:List UInt8)(ks:List E):=[iI k,iI n,IV.str nm,iI op,IV.vslice none 0 ks.length 5 (aW ks)]
def b6H:=TV.l 1 0
theorem g2A(dd:Nat)(k n:Int)(nm:List UInt8)(op:Int)(ks:List E)(h:Heap)(Q:KT):dF (aV (bB 197 (b6G dd) d6X)) env 197 dV (tK 4 (g1Z k n nm op ks)) bT [.agg [.int .i64 k,.int .i64 n,.str nm,.int .i64 op,.vslice none 0 ks.length 5 (aW ks)]] h Q=(
 aC (aN [IV.agg (a8Y k n op nm ks)]) ((∃(x:Nat×Nat),some b6H=some b6H/\tI 0=tI (↑x.2:Int)/\tI 0=tI (↑x.1:Int)/\some (a8Y k n op nm ks)=some (a8Y k n op nm ks)/\Heap.mk PT.nil 0=Heap.mk PT.nil 0/\(x.1<=ks.length/\x.2=Es.dp (List.take x.1 ks))/\True)/\∀(x:Nat×Nat)(b:FF),x.1<=ks.length/\x.2=Es.dp (List.take x.1 ks)->aM (decide ((↑x.1:Int)< (↑ks.length:Int))) (aC (decide (0<=(↑x.1:Int)) &&decide ((↑x.1:Int)< (↑ks.length:Int))) (aK .i64 (aW ks) ((↑x.1:Int).toNat*5) fun n0=>aK .i64 (aW ks) ((↑(x.1):Int).toNat*5+1) fun n1=>bZ (aW ks) ((↑x.1:Int).toNat*5+1+1) fun(s2:List UInt8)=>aK .i64 (aW ks) ((↑x.1:Int).toNat*5+1+1+1) fun n3=>bH 5 (aW ks) ((↑x.1:Int).toNat*5+1+1+1+1) fun(i4:Option Nat)(e5 l6:Nat)(c7:List IV)=> ∃(ks_1:List E),∃(f:Int),(l6=ks_1.length/\c7=aW ks_1)/\(Es.dp ks_1<dd/\Es.dp ks_1<=1000/\ks_1.length<=(3:Nat)/\Es.wf f ks_1)/\∃(x_1:Nat×Nat),some b6H=some b6H/\tI (if wW ((1:Int)+(↑(Es.dp ks_1):Int))>(↑x.2:Int)then wW ((1:Int)+(↑(Es.dp ks_1):Int))else(↑x.2:Int))=tI (↑x_1.2:Int)/\tI (wW ((↑x.1:Int)+1))=tI (↑x_1.1:Int)/\some (a8Y k n op nm ks)=some (a8Y k n op nm ks)/\Heap.mk PT.nil 0=Heap.mk PT.nil 0/\(x_1.1<=ks.length/\x_1.2=Es.dp (List.take x_1.1 ks))/\ks.length-x_1.1<ks.length-x.1)) (Q (.int .i64 (↑x.2:Int)) h))):=by kernel_rfl
theorem g2B: ∀d xs h Q,b6G d xs h Q->aU env 197 xs h Q:=by
 intro d
 induction d with
 |zero=>
  intro xs h Q hk;unfold b6G at hk;split at hk
  ·rename_i k n nm op m c;obtain⟨ks,f,⟨rfl,rfl⟩,⟨hd,hb,hl3,hw⟩,hk⟩:=hk;omega
  ·exact hk.elim
 |succ dd ih=>
  intro xs h Q hk;unfold b6G at hk;split at hk
  ·rename_i k n nm op m c;obtain⟨ks,f,⟨rfl,rfl⟩,⟨hd,hb,hl3,hw⟩,hk⟩:=hk;refine aS (aI ih (d6Y)) (g2A dd k n nm op ks h Q) ?_;delta a8Y b6H tI wW iI;refine aA (by simp only [aN,bL,bG,bW,bP,cI,h1L]) ⟨⟨(0,0),rfl,rfl,rfl,rfl,rfl,⟨h1N _,rfl⟩,trivial⟩,?_⟩;rintro⟨i,m⟩ _ ⟨hi,hm⟩;dsimp only at hi hm⊢;subst hm;refine dW (fun c=>?_) (fun c=>?_)
   ·have hlt:i<ks.length:=by omega
    refine aP (by omega) (b0Y hlt (by rw [h0Z]) fun k2 n2 nm2 op2 q e=>?_);have h1:=Es.dp_mem (h1B hlt);have h2:ks[i].dp=Es.dp q:=by rw [e];rfl
    have h3:=Es.dp_take hlt;have h4:=Es.dp_le (ks:=ks) i;have h5:=EW.of (Es.wf_mem hw (h1B hlt));rw [e]at h5;refine⟨q,f,⟨rfl,rfl⟩,⟨by omega,by omega,h5.1,h5.2⟩,(i+1,Es.dp (ks.take (i+1))),rfl,?_,(by(try dsimp only);rw [h0X _ (by omega)];rfl),rfl,rfl,⟨hlt,rfl⟩,by dsimp only;omega⟩;dsimp only;rw [h0X _ (by omega)]
    congr 3
    split<;>omega
   ·rw [h1H (by omega)];exact hk
  ·exact hk.elim
def d6Z:=bB 197 (fun xs h K=> ∃d,b6G d xs h K) d6X
theorem d7A:aT env d6Z:=aI (fun xs h Q hk=>hk.elim fun d hk=>g2B d xs h Q hk) (d6Y)
def f4M(l:List S)(dp:Nat):Inv':=hJ (Nat×Nat×Nat×Nat) (fun x=>[(0,.v (.vslice none 0 l.length 17 (aX l))),(1,.v (.int .i64 (dp:Int))),(7,.v (.int .i64 (x.2.1:Int))),(8,.v (.int .i64 (x.2.2.1:Int))),(9,.v (.int .i64 (x.2.2.2:Int))),(10,.v (.int .i64 (x.1:Int)))]) (fun _=>[]) (fun _=>Heap.empty)
 (fun x=>x.1<=l.length/\x.2.1=Ss.cnt (l.take x.1)/\x.2.2.1=Ss.whl (l.take x.1)/\x.2.2.2=Ss.dp dp (l.take x.1)) (fun x=>l.length-x.1)
def b6I(d:Nat)(xs:List IV)(h:Heap)(K:KT):Prop:=match xs with
 | [.vslice none 0 m 17 c,.int .i64 q]=> ∃(l:List S)(dp:Nat),(m=l.length/\c=aX l/\q=(dp:Int))/\(Ss.cnt l<d/\Ss.cnt l<=1000/\Ss.dp dp l<=1000/\dp+Ss.cnt l<=2000)/\K (.tuple [.int .i64 (Ss.cnt l:Int),.int .i64 (Ss.whl l:Int),.int .i64 (Ss.dp dp l:Int)]) h
 |_=>False
def a8Z(l:List S)(x:Nat×Nat×Nat×Nat):=decide (0<=(↑x.1:Int)) &&decide ((↑x.1:Int)< (↑l.length:Int))
def b6J(l:List S):=TV.v (.vslice none 0 l.length 17 (aX l))
def mW(x:Nat×Nat×Nat×Nat):=x.2.2
def b6K:=TV.v (.int .i64 0)
def b6L(dp:Nat):=TV.v (.int .i64 (↑dp:Int))
abbrev d7B(dd dp_1:Nat)(l_1:List M10.S):=Ss.cnt l_1<dd/\Ss.cnt l_1<=1000/\Ss.dp dp_1 l_1<=1000/\dp_1+Ss.cnt l_1<=2000
abbrev d7C(dd dp_2:Nat)(l_2:List M10.S):=Ss.cnt l_2<dd/\Ss.cnt l_2<=1000/\Ss.dp dp_2 l_2<=1000/\dp_2+Ss.cnt l_2<=2000
def c1Q(dp dp_1 dp_2:Nat)(l:List S)(l_1 l_2:List M10.S)(x:Nat×Nat×Nat×Nat)(y0:Int):Prop:= ∃(yy:Nat×Nat×Nat×Nat),some (b6J l)=some (b6J l)/\some (b6L dp)=some (b6L dp)/\tI (wW (wW (wW ((↑x.2.1:Int)+1)+(↑(Ss.cnt l_1):Int))+(↑(Ss.cnt l_2):Int)))=tI (↑yy.2.1:Int)/\tI (y0)=tI (↑yy.2.2.1:Int)/\tI (if(if(↑(Ss.dp dp_2 l_2):Int)>(↑(Ss.dp dp_1 l_1)
 :Int)then(↑(Ss.dp dp_2 l_2):Int)else(↑(Ss.dp dp_1 l_1):Int))>if(↑dp:Int)>(↑((mW x).2):Int)then(↑dp:Int)else(↑((mW x).2):Int)then if(↑(Ss.dp dp_2 l_2):Int)>(↑(Ss.dp dp_1 l_1):Int)then(↑(Ss.dp dp_2 l_2):Int)else(↑(Ss.dp dp_1 l_1):Int)else if
 (↑dp:Int)>(↑((mW x).2):Int)then(↑dp:Int)else(↑((mW x).2):Int))=tI (↑yy.2.2.2:Int)/\tI (wW ((↑x.1:Int)+1))=tI (↑yy.1:Int)/\Heap.mk PT.nil 0=Heap.mk PT.nil 0/\(yy.1<=l.length/\yy.2.1=Ss.cnt (List.take yy.1 l)/\yy.2.2.1=Ss.whl (List.take yy.1 l)
 /\yy.2.2.2=Ss.dp dp (List.take yy.1 l))/\l.length-yy.1<l.length-x.1
theorem g2C(dd:Nat)(l:List S)(dp:Nat)(h:Heap)(Q:KT):dF (aV (bB 195 (b6I dd) d6Z)) env 195 dV (tK 4 (f4M l dp)) bT [.vslice none 0 l.length 17 (aX l),.int .i64 (dp:Int)] h Q=(
 aC (aN [IV.vslice none 0 l.length 17 (aX l),iI (↑dp:Int)]) ((∃(x:Nat×Nat×Nat×Nat),some (b6J l)=some (b6J l)/\some (b6L dp)=some (b6L dp)/\some b6K=tI (↑x.2.1:Int)/\some b6K=tI (↑((mW x).1):Int)/\some b6K=tI (↑((mW x).2):Int)/\some b6K=tI (↑x.1:Int)/\Heap.mk PT.nil 0=Heap.mk PT.nil 0/\(x.1<=l.length/\Prod.fst x.2=Ss.cnt (List.take x.1 l)/\Prod.fst (mW x)=Ss.whl (List.take x.1 l)/\Prod.snd (mW x)=Ss.dp dp (List.take x.1 l))/\True)/\∀(x:Nat×Nat×Nat×Nat)(b:FF),x.1<=l.length/\x.2.1=Ss.cnt (List.take x.1 l)/\Prod.fst (mW x)=Ss.whl (List.take x.1 l)/\Prod.snd (mW x)=Ss.dp dp (List.take x.1 l)->aM (decide ((↑x.1:Int)< (↑l.length:Int))) (aC (a8Z l x) (aK .i64 (aX l) ((↑x.1:Int).toNat*17+0) fun(n0:Int)=>aM (n0==4) (aC (a8Z l x) (bH 17 (aX l) ((↑x.1:Int).toNat*17+15) fun(i1:Option Nat)(e2 l3:Nat)(c4:List IV)=> ∃(l_1:List M10.S),∃(dp_1:Nat),(l3=l_1.length/\c4=aX l_1/\wW ((↑dp:Int)+(1:Int))=(↑dp_1:Int))/\(d7B dd dp_1 l_1)/\aC (a8Z l x) (bH 17 (aX l) ((↑x.1:Int).toNat*17+16) fun(i5:Option Nat)(e6 l7:Nat)(c8:List IV)=> ∃(l_2:List M10.S),∃(dp_2:Nat),(l7=l_2.length/\c8=aX l_2/\wW ((↑dp:Int)+1)=(↑dp_2:Int))/\(d7C dd dp_2 l_2)/\c1Q dp dp_1 dp_2 l l_1 l_2 x (wW (wW (wW ((↑((mW x).1):Int)+1)+(↑(Ss.whl l_1):Int))+(↑(Ss.whl l_2):Int)))))) (aC (a8Z l x) (bH (17:Nat) (aX l) ((↑x.1:Int).toNat*17+15) fun(i9:Option Nat)(e10 l11:Nat)(c12:List IV)=> ∃(l_1:List M10.S),∃(dp_1:Nat),(l11=l_1.length/\c12=aX l_1/\wW ((↑dp:Int)+1)=(↑dp_1:Int))/\(d7B dd dp_1 l_1)/\aC (a8Z l x) (bH 17 (aX l) ((↑x.1:Int).toNat*17+16) fun(i13:Option Nat)(e14 l15:Nat)(c16:List IV)=> ∃(l_2:List M10.S),∃(dp_2:Nat),(l15=l_2.length/\c16=aX l_2/\wW ((↑dp:Int)+1)=(↑dp_2:Int))/\(d7C dd dp_2 l_2)/\c1Q dp dp_1 dp_2 l l_1 l_2 x (wW (wW ((↑((mW x).1):Int)+(↑(Ss.whl l_1):Int))+(↑(Ss.whl l_2):Int)))))))) (Q (.tuple [.int .i64 (↑x.2.1:Int),iI (↑((mW x).1):Int),iI (↑((mW x).2):Int)]) h))):=by kernel_rfl
theorem g2D: ∀d xs h Q,b6I d xs h Q->aU env 195 xs h Q:=by
 intro d
 induction d with
 |zero=>
  intro xs h Q hk;unfold b6I at hk;split at hk
  ·rename_i m c q;obtain⟨l,dp,⟨rfl,rfl,rfl⟩,⟨hd,hb,hb2,hb3⟩,hk⟩:=hk;omega
  ·exact hk.elim
 |succ dd ih=>
  intro xs h Q hk;unfold b6I at hk;split at hk
  ·rename_i m c q;obtain⟨l,dp,⟨rfl,rfl,rfl⟩,⟨hd,hb,hb2,hb3⟩,hk⟩:=hk;refine aS (aI ih (d7A)) (g2C dd l dp h Q) ?_;delta c1Q a8Z b6J mW b6K b6L d7B d7C tI wW iI;have lc:=Ss.len_cnt l;refine aA (by simp only [aN,bL,bG,bW,bP,cI,h1L]) ⟨⟨(0,0,0,0),rfl,rfl,rfl,rfl,rfl,rfl,rfl,⟨h1N _,rfl,rfl,rfl⟩,trivial⟩,?_⟩;rintro⟨i,a,b,m⟩ _ ⟨hi,ha,hb',hm⟩;dsimp only at hi ha hb' hm⊢;subst ha hb' hm;refine dW (fun c=>?_) (fun c=>?_)
   ·have hlt:i<l.length:=by omega
    obtain⟨k,nm,to,n,ak,an,anm,aop,aks,vk,vn,vnm,vop,vks,args,th,el,e⟩:=g1A l[i];have h1:=Ss.cnt_mem (h1B hlt);have h2:=Ss.dp_mem (d:=dp) (h1B hlt);have e1:l[i].cnt=1+Ss.cnt th+Ss.cnt el:=by rw [e];rfl
    have e2:l[i].dp dp=max dp (max (Ss.dp (dp+1) th) (Ss.dp (dp+1) el)):=by rw [e];rfl
    have e3:l[i].whl=(if k=4 then 1 else 0)+Ss.whl th+Ss.whl el:=by rw [e];rfl
    have t1:=Ss.cnt_take hlt;have t2:=Ss.whl_take hlt;have t3:=Ss.dp_take (d:=dp) hlt;have b1:=Ss.cnt_le (l:=l) (i+1);have b2:=Ss.whl_cnt (l.take i);have b3:=Ss.dp_le (d:=dp) (l:=l) i;have b4:=Ss.whl_cnt th;have b5:=Ss.whl_cnt el;refine aP (by omega) (f2Y hlt e (by rw [h0Z];rfl) (aD (fun c1=>?_) (fun c1=>?_)))
    ·rw [beq_iff_eq]at c1;rw [if_pos c1]at e3;refine aP (by omega) (a8N hlt e (by rw [h0Z]) ⟨th,dp+1,⟨rfl,rfl,(by rw [h0X _ (by omega)];rfl)⟩,⟨by omega,by omega,by omega,by omega⟩,aP (by omega) (a8O hlt e (by rw [h0Z]) ⟨el,dp+1,⟨rfl,rfl,(by rw [h0X _ (by omega)];rfl)⟩,⟨by omega,by omega,by omega,by omega⟩,(i+1,Ss.cnt (l.take (i+1)),Ss.whl (l.take (i+1)),Ss.dp dp (l.take (i+1))),rfl,rfl,?_,?_,?_,(by(try dsimp only);rw [h0X _ (by omega)];rfl),rfl,⟨hlt,rfl,rfl,rfl⟩,by dsimp only;omega⟩)⟩)
     ·dsimp only;rw [h0X (_+1) (by omega),h0X (_+1+_) (by omega),h0X _ (by omega)]
      congr 3
      omega
     ·dsimp only;rw [h0X (_+1) (by omega),h0X (_+1+_) (by omega),h0X _ (by omega)]
      congr 3
      omega
     ·dsimp only
      congr 3
      split<;>split<;>split<;>omega
    ·rw [beq_eq_false_iff_ne]at c1;rw [if_neg c1]at e3;refine aP (by omega) (a8N hlt e (by rw [h0Z]) ⟨th,dp+1,⟨rfl,rfl,(by rw [h0X _ (by omega)];rfl)⟩,⟨by omega,by omega,by omega,by omega⟩,aP (by omega) (a8O hlt e (by rw [h0Z]) ⟨el,dp+1,⟨rfl,rfl,(by rw [h0X _ (by omega)];rfl)⟩,⟨by omega,by omega,by omega,by omega⟩,(i+1,Ss.cnt (l.take (i+1)),Ss.whl (l.take (i+1)),Ss.dp dp (l.take (i+1))),rfl,rfl,?_,?_,?_,(by(try dsimp only);rw [h0X _ (by omega)];rfl),rfl,⟨hlt,rfl,rfl,rfl⟩,by dsimp only;omega⟩)⟩)
     ·dsimp only;rw [h0X (_+1) (by omega),h0X (_+1+_) (by omega),h0X _ (by omega)]
      congr 3
      omega
     ·dsimp only;rw [h0X (((Ss.whl (List.take i l):Nat):Int)+((Ss.whl th:Nat):Int)) (by omega),h0X _ (by omega)]
      congr 3
      omega
     ·dsimp only
      congr 3
      split<;>split<;>split<;>omega
   ·rw [h1H (by omega)];exact hk
  ·exact hk.elim
def d7D:=bB 195 (fun xs h K=> ∃d,b6I d xs h K) d6Z
theorem d7E:aT env d7D:=aI (fun xs h Q hk=>hk.elim fun d hk=>g2D d xs h Q hk) (d7A)
def e9N(l:List S):Inv':=hJ Nat (fun i=>[(0,.v (.vslice none 0 l.length 17 (aX l))),(3,.v (.int .i64 (i:Int)))]) (fun _=>[]) (fun _=>Heap.empty) (fun i=>i<=l.length) (fun i=>l.length-i)
def d7F(d:Nat)(xs:List IV)(h:Heap)(K:KT):Prop:=match xs with
 | [.vslice none 0 m 17 c]=> ∃(l:List S)(f:Int),(m=l.length/\c=aX l)/\(Ss.cnt l<d/\Ss.cnt l<=1000/\Ss.wf f l/\Ss.ed 5 l)/\K (.bool false) h
 |_=>False
abbrev a9A(d:Nat)(ks:List E)(f:Int):=Es.dp ks<d/\Es.dp ks<=1000/\ks.length<=3/\Es.wf f ks
def b6M(l:List S):=TV.v (.vslice none 0 l.length 17 (aX l))
def a9B(ks:List E):=decide ((↑(Es.dp ks):Int)>20)
def b1M(l:List S)(x:Nat):Prop:= ∃(yy:Nat),some (b6M l)=some (b6M l)/\tI (wW ((↑x:Int)+1))=tI (↑yy:Int)/\Heap.mk PT.nil 0=Heap.mk PT.nil 0/\Nat.le yy l.length/\l.length-yy<l.length-x
theorem g6E(dd:Nat)(l:List S)(h:Heap)(Q:KT):dF (aV (bB 196 (d7F dd) d7D)) env 196 (fun k=>if k=9 then 3 else 0) (tK 3 (e9N l)) bT [.vslice none 0 l.length 17 (aX l)] h Q=(
 aC (aN [IV.vslice none 0 l.length 17 (aX l)]) ((∃(x:Nat),some (b6M l)=some (b6M l)/\tI 0=tI (↑x:Int)/\Heap.mk PT.nil 0=Heap.mk PT.nil 0/\Nat.le x l.length/\True)/\∀(x:Nat)(b:FF),x<=l.length->aM (decide ((↑x:Int)< (↑l.length:Int))) (aC (decide (0<=(↑x:Int)) &&decide ((↑x:Int)< (↑l.length:Int))) (aK .i64 (aX l) ((↑x:Int).toNat*17) fun n0=>bZ (aX l) ((↑x:Int).toNat*(17:Nat)+1) fun(s1:List UInt8)=>bZ (aX l) ((↑x:Int).toNat*17+1+1) fun(s2:List UInt8)=>aK .i64 (aX l) ((↑x:Int).toNat*17+1+1+1) fun n3=>aK .i64 (aX l) ((↑x:Int).toNat*17+1+1+1+1) fun n4=>aK .i64 (aX l) ((↑x:Int).toNat*17+1+1+1+1+1) fun n5=>bZ (aX l) ((↑x:Int).toNat*17+1+1+(1:Nat)+1+1+1) fun(s6:List UInt8)=>aK .i64 (aX l) ((↑x:Int).toNat*17+1+1+1+1+1+1+1) fun n7=>bH 5 (aX l) ((↑x:Int).toNat*17+1+(1:Nat)+1+1+1+1+1+1) fun(i8:Option Nat)(e9 l10:Nat)(c11:List IV)=>aK .i64 (aX l) ((↑x:Int).toNat*17+1+1+1+1+1+1+1+1+(1:Nat)) fun n12=>aK .i64 (aX l) ((↑x:Int).toNat*17+1+1+1+1+1+1+1+1+1+1) fun n13=>bZ (aX l) ((↑x:Int).toNat*17+1+1+(1:Nat)+1+1+1+1+1+1+1+1) fun(s14:List UInt8)=>aK .i64 (aX l) ((↑x:Int).toNat*17+1+1+1+1+1+1+1+1+1+(1:Nat)+1+1) fun n15=>bH 5 (aX l) ((↑x:Int).toNat*17+1+1+1+1+1+1+1+1+1+1+1+1+1) fun(i16:Option Nat)(e17 l18:Nat)(c19:List IV)=>bH 5 (aX l) ((↑x:Int).toNat*17+1+1+1+1+1+1+1+1+1+1+1+1+1+1) fun(i20:Option Nat)(e21 l22:Nat)(c23:List IV)=>bH 17 (aX l) ((↑x:Int).toNat*17+1+1+1+1+1+1+1+1+1+1+1+1+1+1+1) fun(i24:Option Nat)(e25 l26:Nat)(c27:List IV)=>bH 17 (aX l) ((↑x:Int).toNat*17+1+1+1+1+1+1+1+1+1+1+1+1+1+1+1+1) fun(i28:Option Nat)(e29 l30:Nat)(c31:List IV)=> ∃(d:Nat),∃(ks:List E),∃(f:Int),(l10=ks.length/\c11=aW ks)/\(a9A d ks f)/\aM (a9B ks) (Q (.bool true) h) (∃(d:Nat),∃(ks:List E),∃(f:Int),(l18=ks.length/\c19=aW ks)/\(a9A d ks f)/\aM (a9B ks) (Q (.bool true) h) (∃(l_1:List M10.S),∃(f:Int),(l26=l_1.length/\c27=aX l_1)/\(Ss.cnt l_1<dd/\Ss.cnt l_1<=1000/\Ss.wf f l_1/\Ss.ed (5:Nat) l_1)/\∃(l_2:List M10.S),∃(f:Int),(l30=l_2.length/\c31=aX l_2)/\(Ss.cnt l_2<dd/\Ss.cnt l_2<=1000/\Ss.wf f l_2/\Ss.ed (5:Nat) l_2)/\aM (decide (0< (↑l22:Int))) (aC (true&&decide (0< (↑l22:Int))) (aK .i64 c23 0 fun n32=>aK .i64 c23 1 fun n33=>bZ c23 2 fun(s34:List UInt8)=>aK .i64 c23 3 fun n35=>bH 5 c23 4 fun(i36:Option Nat)(e37 l38:Nat)(c39:List IV)=> ∃(d:Nat),∃(ks:List E),∃(f:Int),(l38=ks.length/\c39=aW ks)/\(a9A d ks f)/\aM (a9B ks) (Q (.bool true) h) (aM (decide (1< (↑l22:Int))) (aC (true&&decide (1< (↑l22:Int))) (aK .i64 c23 5 fun n40=>aK .i64 c23 6 fun n41=>bZ c23 7 fun(s42:List UInt8)=>aK .i64 c23 8 fun n43=>bH 5 c23 9 fun(i44:Option Nat)(e45 l46:Nat)(c47:List IV)=> ∃(d:Nat),∃(ks:List E),∃(f:Int),(l46=ks.length/\c47=aW ks)/\(a9A d ks f)/\aM (a9B ks) (Q (.bool true) h) (aM (decide (2< (↑l22:Int))) (aC (true&&decide (2< (↑l22:Int))) (aK .i64 c23 10 fun n48=>aK .i64 c23 11 fun(n49:Int)=>bZ c23 12 fun(s50:List UInt8)=>aK .i64 c23 13 fun n51=>bH 5 c23 14 fun(i52:Option Nat)(e53 l54:Nat)(c55:List IV)=> ∃(d:Nat),∃(ks:List E),∃(f:Int),(l54=ks.length/\c55=aW ks)/\(a9A d ks f)/\aM (a9B ks) (Q (.bool true) h) False)) (b1M l x)))) (b1M l x)))) (b1M l x))))) (Q (.bool false) h))):=by kernel_rfl
theorem g6F: ∀d xs h Q,d7F d xs h Q->aU env 196 xs h Q:=by
 intro d
 induction d with
 |zero=>
  intro xs h Q hk;unfold d7F at hk;split at hk
  ·rename_i m c;obtain⟨l,f,⟨rfl,rfl⟩,⟨hd,hb,hw,he⟩,hk⟩:=hk;omega
  ·exact hk.elim
 |succ dd ih=>
  intro xs h Q hk;unfold d7F at hk;split at hk
  ·rename_i m c;obtain⟨l,f,⟨rfl,rfl⟩,⟨hd,hb,hw,he⟩,hk⟩:=hk;refine aS (aI ih (d7E)) (g6E dd l h Q) ?_;delta b1M a9A b6M a9B tI wW;have lc:=Ss.len_cnt l;refine aA (by simp only [aN,bL,bG,bW,bP,cI,h1L]) ⟨⟨0,rfl,rfl,rfl,h1N _,trivial⟩,?_⟩;rintro i _ hi;refine dW (fun c=>?_) (fun c=>hk);have hlt:i<l.length:=by omega
   refine aP (by omega) (e5U hlt (by rw [h0Z]) fun k nm to n ak an anm aop aks vk vn vnm vop vks args th el e=>?_);have h1:=Ss.cnt_mem (h1B hlt);have e1:l[i].cnt=1+Ss.cnt th+Ss.cnt el:=by rw [e];rfl
   have hwf:=Ss.wf_mem hw (h1B hlt);have hed:=Ss.ed_mem he (h1B hlt);rw [e]at hwf hed;obtain⟨hn,hw1,hw2⟩:=hwf;obtain⟨⟨ha,hv,hr⟩,hd1,hd2⟩:=hed;have ha':Es.dp aks<=5:=ha;have hv':Es.dp vks<=5:=hv;have h2:=hn.args2;obtain⟨w1,w2,w3⟩:=hn.ew;refine⟨10,aks,f,⟨rfl,rfl⟩,⟨by omega,by omega,w1.1,w1.2⟩,nG (by omega) ⟨10,vks,f,⟨rfl,rfl⟩,⟨by omega,by omega,w2.1,w2.2⟩,nG (by omega) ⟨th,f,⟨rfl,rfl⟩,⟨by omega,by omega,hw1,hd1⟩,el,f,⟨rfl,rfl⟩,⟨by omega,by omega,hw2,hd2⟩,dW (fun c1=>?_) (fun c1=>⟨i+1,rfl,(by(try dsimp only);rw [h0X _ (by omega)];rfl),rfl,hlt,by omega⟩)⟩⟩⟩;have l0:0<args.length:=by omega
   refine aA (by rw [h2G,decide_eq_true_eq];exact c1) (b0Y (i:=0) l0 rfl fun k2 n2 nm2 op2 q e2=>?_);have q1:Es.dp q<=5:=by have:=hr _ (h1B l0);rw [e2]at this;exact this
   have w4:=EW.of (Es.wf_mem w3 (h1B l0));rw [e2]at w4;refine⟨10,q,f,⟨rfl,rfl⟩,⟨by omega,by omega,w4.1,w4.2⟩,nG (by omega) (dW (fun c2=>?_) (fun c2=>⟨i+1,rfl,(by(try dsimp only);rw [h0X _ (by omega)];rfl),rfl,hlt,by omega⟩))⟩;have l1:1<args.length:=by omega
   refine aA (by rw [h2G,decide_eq_true_eq];exact c2) (b0Y (i:=1) l1 rfl fun k3 n3 nm3 op3 q3 e3=>?_);have q2:Es.dp q3<=5:=by have:=hr _ (h1B l1);rw [e3]at this;exact this
   have w5:=EW.of (Es.wf_mem w3 (h1B l1));rw [e3]at w5;exact⟨10,q3,f,⟨rfl,rfl⟩,⟨by omega,by omega,w5.1,w5.2⟩,nG (by omega) (nG (by omega) ⟨i+1,rfl,(by(try dsimp only);rw [h0X _ (by omega)];rfl),rfl,hlt,by omega⟩)⟩
  ·exact hk.elim
def f4N:=bB 196 (fun xs h K=> ∃d,d7F d xs h K) d7D
theorem e9O:aT env f4N:=aI (fun xs h Q hk=>hk.elim fun d hk=>g6F d xs h Q hk) (d7E)
def f4O(xs:List IV)(h:Heap)(K:KT):Prop:=match xs with
 | [.agg [.vslice none 0 2 2 ac,.vslice none 0 2 9 fc]]=>qG ac fc/\K (.bool false) h
 |_=>False
def oZ:=IV.bool true
abbrev d7G(d dp:Nat)(l:List M10.S):=Ss.cnt l<d/\Ss.cnt l<=1000/\Ss.dp dp l<=1000/\dp+Ss.cnt l<=2000
theorem g6G(la lb:Int)(b0:List S)(uk un:Int)(unm:List UInt8)(uop:Int)(uks:List E)(b1:List S)(wk wn:Int)(wnm:List UInt8)(wop:Int)(wks:List E)(h:Heap)(Q:KT):dF (aV f4N) env 142 (fun k=>if k=5 then 3 else if k=10 then 3 else 0) bT bT [.agg [.vslice none 0 2 2 [.str [97],.int .i64 la,.str [98],.int .i64 lb],.vslice none 0 2 9 [.str [102],.vslice none 1 2 1 [.str [120],.str [121]],.vslice none 1 2 1 [.str [105],.str [106]],.vslice none 0 b0.length 17 (aX b0),.int .i64 uk,.int .i64 un,.str unm,.int .i64 uop,.vslice none 0 uks.length 5 (aW uks),.str [103],.vslice none 1 1 1 [.str [110]],.vslice none 1 1 1 [.str [105]],.vslice none 0 b1.length 17 (aX b1),.int .i64 wk,.int .i64 wn,.str wnm,.int .i64 wop,.vslice none 0 wks.length 5 (aW wks)]]] h Q=(
 aC (aN [IV.agg [.vslice none 0 2 2 [IV.str [97],iI la,IV.str [98],iI lb],IV.vslice none 0 2 9 [IV.str [102],IV.vslice none 1 2 1 [IV.str [120],IV.str [121]],IV.vslice none 1 2 1 [IV.str [105],IV.str [106]],IV.vslice none 0 b0.length 17 (aX b0),iI uk,iI un,IV.str unm,iI uop,IV.vslice none 0 (uks.length) 5 (aW uks),IV.str [103],IV.vslice none 1 1 1 [IV.str [110]],IV.vslice none 1 1 1 [IV.str [105]],IV.vslice none 0 b1.length 17 (aX b1),iI wk,iI wn,IV.str wnm,iI wop,IV.vslice none 0 wks.length 5 (aW wks)]]]) (aM (decide (la<1)) (Q oZ h) (aM (decide (la>16)) (Q oZ h) (aM (decide (lb<1)) (Q oZ h) (aM (decide (lb>16)) (Q oZ h) (∃(d:Nat),∃(l:List M10.S),∃(dp:Nat),(b0.length=l.length/\aX b0=aX l/\(0:Int)=(↑dp:Int))/\(d7G d dp l)/\aM (decide ((↑(Ss.cnt l):Int)>200)) (Q oZ h) (aM (decide ((↑(Ss.whl l):Int)>16)) (Q oZ h) (aM (decide ((↑(Ss.dp dp l):Int)>20)) (Q oZ h) (∃(d:Nat),∃(l:List M10.S),∃(f:Int),(b0.length=l.length/\aX b0=aX l)/\(Ss.cnt l<d/\Ss.cnt l<=1000/\Ss.wf f l/\Ss.ed (5:Nat) l)/\∃(d:Nat),∃(ks:List E),∃(f:Int),(uks.length=ks.length/\aW uks=aW ks)/\(Es.dp ks<d/\Es.dp ks<=(1000:Nat)/\ks.length<=3/\Es.wf f ks)/\aM (decide ((↑(Es.dp ks):Int)>20)) (Q oZ h) (∃(d:Nat),∃(l:List M10.S),∃(dp:Nat),(b1.length=l.length/\aX b1=aX l/\(0:Int)=(↑dp:Int))/\(d7G d dp l)/\aM (decide ((↑(Ss.cnt l):Int)>200)) (Q oZ h) (aM (decide ((↑(Ss.whl l):Int)>16)) (Q oZ h) (aM (decide ((↑(Ss.dp dp l):Int)>20)) (Q oZ h) (∃(d:Nat),∃(l:List M10.S),∃(f:Int),(b1.length=l.length/\aX b1=aX l)/\(Ss.cnt l<d/\Ss.cnt l<=1000/\Ss.wf f l/\Ss.ed (5:Nat) l)/\∃(d:Nat),∃(ks:List E),∃(f:Int),(wks.length=ks.length/\aW wks=aW ks)/\(Es.dp ks<d/\Es.dp ks<=1000/\ks.length<=3/\Es.wf f ks)/\aM (decide ((↑(Es.dp ks):Int)>20)) (Q oZ h) (Q (.bool false) h)))))))))))))):=by kernel_rfl
theorem g6H: ∀xs h Q,f4O xs h Q->aU env 142 xs h Q:=by
 intro xs h Q hk;unfold f4O at hk;split at hk
 ·rename_i ac fc;obtain⟨⟨la,lb,b0,⟨uk,un,unm,uop,uks⟩,b1,⟨wk,wn,wnm,wop,wks⟩,hp,rfl,rfl⟩,hk⟩:=hk;refine aS (e9O) (g6G la lb b0 uk un unm uop uks b1 wk wn wnm wop wks h Q) ?_;delta oZ d7G iI;obtain⟨⟨a1,a2,a3,a4⟩,g0,g1⟩:=hp;have w1:=EW.of g0.vw;have w2:=EW.of g1.vw;have x0:=g0.cnt;have x1:=g0.whl;have x2:=g0.dp;have x3:Es.dp uks<=5:=g0.vd;have y0:=g1.cnt;have y1:=g1.whl;have y2:=g1.dp;have y3:Es.dp wks<=5:=g1.vd;exact aA (by simp only [aN,bL,bG,bW,bP,cI,h1L]) (nG (by omega) (nG (by omega) (nG (by omega) (nG (by omega) ⟨1000,b0,0,⟨rfl,rfl,rfl⟩,⟨by omega,by omega,by omega,by omega⟩,nG (by omega) (nG (by omega) (nG (by omega) ⟨1000,b0,0,⟨rfl,rfl⟩,⟨by omega,by omega,g0.wf,g0.ed⟩,1000,uks,0,⟨rfl,rfl⟩,⟨by omega,by omega,w1.1,w1.2⟩,nG (by omega) ⟨1000,b1,0,⟨rfl,rfl,rfl⟩,⟨by omega,by omega,by omega,by omega⟩,nG (by omega) (nG (by omega) (nG (by omega) ⟨1000,b1,1,⟨rfl,rfl⟩,⟨by omega,by omega,g1.wf,g1.ed⟩,1000,wks,1,⟨rfl,rfl⟩,⟨by omega,by omega,w2.1,w2.2⟩,nG (by omega) hk⟩))⟩⟩))⟩))))
 ·exact hk.elim
def f4P:=bB 142 f4O f4N
theorem e9P:aT env f4P:=aI g6H (e9O)
def f4Q(k n:Int)(nm:List UInt8)(op:Int)(ks:List E):Inv':=hJ Nat (fun i=>[(1,.l 1 0),(3,.v (.int .i64 (i:Int)))]) (fun _=>[(1,[.int .i64 k,.int .i64 n,.str nm,.int .i64 op,.vslice none 0 ks.length 5 (aW ks)])]) (fun _=>Heap.empty) (fun i=>i<=ks.length) (fun i=>ks.length-i)
def d7H(d:Nat)(xs:List IV)(h:Heap)(K:KT):Prop:=match xs with
 | [.agg [.int .i64 k,.int .i64 n,.str nm,.int .i64 op,.vslice none 0 m 5 c]]=> ∃(ks:List E)(f:Int),(m=ks.length/\c=aW ks)/\(Es.dp ks<d/\E.wf f (.mk k n nm op ks))/\K (.bool true) h
 |_=>False
def a9C(k n op:Int)(nm:List UInt8)(ks:List E):=[iI k,iI n,IV.str nm,iI op,IV.vslice none 0 ks.length 5 (aW ks)]
def lQ:=IV.bool false
def b6N:=TV.l 1 0
def d7I(op:Int)(ks:List E)(h:Heap)(Q:KT):=aM ((↑ks.length:Int)==1) (aM (op==20) (Q (.bool true) h) (Q (.bool (op==21)) h)) (Q lQ h)
theorem g6I(dd:Nat)(k n:Int)(nm:List UInt8)(op:Int)(ks:List E)(h:Heap)(Q:KT):dF (aV (bB 200 (d7H dd) f4P)) env 200 dV (tK 3 (f4Q k n nm op ks)) bT [.agg [.int .i64 k,.int .i64 n,.str nm,.int .i64 op,.vslice none 0 ks.length 5 (aW ks)]] h Q=(
 aC (aN [IV.agg (a9C k n op nm ks)]) ((∃(x:Nat),some b6N=some b6N/\tI 0=tI (↑x:Int)/\some (a9C k n op nm ks)=some (a9C k n op nm ks)/\Heap.mk PT.nil 0=Heap.mk PT.nil 0/\Nat.le x (ks.length)/\True)/\∀(x:Nat)(b:FF),x<=ks.length->aM (decide ((↑x:Int)< (↑ks.length:Int))) (aC (decide (0<=(↑x:Int)) &&decide ((↑x:Int)< (↑ks.length:Int))) (aK .i64 (aW ks) ((↑x:Int).toNat*5) fun n0=>aK .i64 (aW ks) ((↑x:Int).toNat*5+1) fun n1=>bZ (aW ks) ((↑x:Int).toNat*5+1+1) fun(s2:List UInt8)=>aK .i64 (aW ks) ((↑x:Int).toNat*5+1+1+1) fun n3=>bH 5 (aW ks) ((↑x:Int).toNat*5+1+1+1+1) fun(i4:Option Nat)(e5 l6:Nat)(c7:List IV)=> ∃(ks_1:List E),∃(f:Int),(l6=ks_1.length/\c7=aW ks_1)/\(Es.dp ks_1<dd/\E.wf f (E.mk n0 n1 s2 n3 ks_1))/\∃(x_1:Nat),some b6N=some b6N/\tI (wW ((↑x:Int)+1))=tI (↑x_1:Int)/\some (a9C k n op nm ks)=some (a9C k n op nm ks)/\Heap.mk PT.nil 0=Heap.mk PT.nil 0/\Nat.le x_1 ks.length/\ks.length-x_1<ks.length-x)) (aM (k==1) (aM ((↑ks.length:Int)==0) (aM (nm==[]) (Q (.bool (op==0)) h) (Q lQ h)) (Q lQ h)) (aM (k==2) (aM ((↑ks.length:Int)==0) (aM (n==0) (aM (op==0) (List.Mem nm nH/\Q (IV.bool true) h) (Q lQ h)) (Q lQ h)) (Q lQ h)) (aM (k==3) (aM ((↑ks.length:Int)==1) (aM (n==0) (aM (op==0) (List.Mem nm nH/\Q (.bool true) h) (Q lQ h)) (Q lQ h)) (Q lQ h)) (aM (k==4) (aM (n==0) (aM (nm==[]) (aM ((↑ks.length:Int)==2) (aM (decide (4<=op/\op<=18)) (Q (.bool true) h) (d7I op ks h Q)) (d7I op ks h Q)) (Q lQ h)) (Q lQ h)) (aM (k==5) (aM ((↑ks.length:Int)==3) (aM (n==0) (aM (nm==[]) (Q (.bool (op==0)) h) (Q lQ h)) (Q lQ h)) (Q lQ h)) (Q lQ h)))))))):=by kernel_rfl
theorem g6J: ∀d xs h Q,d7H d xs h Q->aU env 200 xs h Q:=by
 intro d
 induction d with
 |zero=>
  intro xs h Q hk;unfold d7H at hk;split at hk
  ·rename_i k n nm op m c;obtain⟨ks,f,⟨rfl,rfl⟩,⟨hd,hw⟩,hk⟩:=hk;omega
  ·exact hk.elim
 |succ dd ih=>
  intro xs h Q hk;unfold d7H at hk;split at hk
  ·rename_i k n nm op m c;obtain⟨ks,f,⟨rfl,rfl⟩,⟨hd,hw⟩,hk⟩:=hk;refine aS (aI ih (e9P)) (g6I dd k n nm op ks h Q) ?_;delta a9C lQ b6N d7I tI wW iI;have h3:=(EW.of hw).1;refine aA (by simp only [aN,bL,bG,bW,bP,cI,h1L]) ⟨⟨0,rfl,rfl,rfl,rfl,h1N _,trivial⟩,?_⟩;rintro i _ hi;refine dW (fun c=>?_) (fun c=>?_)
   ·have hlt:i<ks.length:=by omega
    refine aP (by omega) (b0Y hlt (by rw [h0Z]) fun k2 n2 nm2 op2 q e=>?_);have h1:=Es.dp_mem (h1B hlt);have h2:ks[i].dp=Es.dp q:=by rw [e];rfl
    have h5:=Es.wf_mem hw.2 (h1B hlt);rw [e]at h5;exact⟨q,f,⟨rfl,rfl⟩,⟨by omega,h5⟩,i+1,rfl,(by(try dsimp only);rw [h0X _ (by omega)];rfl),rfl,rfl,hlt,by omega⟩
   have hn:a6Y f k n nm op ks.length:=hw.1;unfold a6Y at hn;rcases hn with⟨rfl,rfl,rfl,hl,_⟩| ⟨rfl,rfl,rfl,hl,hnm⟩| ⟨rfl,rfl,rfl,hl,hnm⟩| ⟨rfl,rfl,rfl,⟨hl,ho1,ho2⟩| ⟨hl,ho1,ho2⟩⟩| ⟨rfl,rfl,rfl,rfl,hl⟩
   ·exact bt rfl (bt (by rw [hl];rfl) (bt rfl hk))
   ·exact bf rfl (bt rfl (bt (by rw [hl];rfl) (bt rfl (bt rfl ⟨c6F hnm,hk⟩))))
   ·exact bf rfl (bf rfl (bt rfl (bt (by rw [hl];rfl) (bt rfl (bt rfl ⟨d4V hnm,hk⟩)))))
   ·exact bf rfl (bf rfl (bf rfl (bt rfl (bt rfl (bt rfl (bt (by rw [hl];rfl) (bt (decide_eq_true ⟨ho1,ho2⟩) hk)))))))
   ·refine bf rfl (bf rfl (bf rfl (bt rfl (bt rfl (bt rfl (bf (by rw [hl];rfl) (bt (by rw [hl];rfl) ?_)))))));have ho:op=20\/op=21:=by omega
    rcases ho with rfl|rfl
    ·exact bt rfl hk
    ·exact bf rfl hk
   ·exact bf rfl (bf rfl (bf rfl (bf rfl (bt rfl (bt (by rw [hl];rfl) (bt rfl (bt rfl hk)))))))
  ·exact hk.elim
def f4R:=bB 200 (fun xs h K=> ∃d,d7H d xs h K) f4P
theorem e9Q:aT env f4R:=aI (fun xs h Q hk=>hk.elim fun d hk=>g6J d xs h Q hk) (e9P)
def f4S(xs:List IV)(h:Heap)(K:KT):Prop:=match xs with
 | [.agg [.int .i64 k,.str nm,.str to,.int .i64 n,.int .i64 ak,.int .i64 an,.str anm,.int .i64 aop,.vslice none 0 am 5 ac,.int .i64 vk,.int .i64 vn,.str vnm,.int .i64 vop,.vslice none 0 vm 5 vc,.vslice none 0 m 5 c,.vslice none 0 mt 17 ct,.vslice none 0 ml 17 cl]]=>((nm=[]/\to=[]/\n=0)/\(ak=0/\an=0/\anm=[]/\aop=0/\am=0/\ac=[])/\(m=0/\c=[])/\aN vc=true/\aN ct=true/\aN cl=true)/\K (.bool true) h
 |_=>False
theorem g6K(k n:Int)(nm to:List UInt8)(ak an:Int)(anm:List UInt8)(aop:Int)(am:Nat)(ac:List IV)(vk vn:Int)(vnm:List UInt8)(vop:Int)(vm:Nat)(vc:List IV)(m:Nat)(c:List IV)(mt:Nat)(ct:List IV)(ml:Nat)(cl:List IV)(h:Heap)(Q:KT):dF (aV f4R) env 231 dV bT bT [.agg [.int .i64 k,.str nm,.str to,.int .i64 n,.int .i64 ak,.int .i64 an,.str anm,.int .i64 aop,.vslice none 0 am 5 ac,.int .i64 vk,.int .i64 vn,.str vnm,.int .i64 vop,.vslice none 0 vm 5 vc,.vslice none 0 m 5 c,.vslice none 0 mt 17 ct,.vslice none 0 ml 17 cl]] h Q=(
 aC (aN [IV.agg [iI k,IV.str nm,IV.str to,iI n,iI ak,iI an,IV.str anm,iI aop,IV.vslice none 0 am 5 ac,iI vk,iI vn,IV.str vnm,iI vop,IV.vslice none 0 vm 5 vc,IV.vslice none 0 m 5 c,IV.vslice none 0 mt 17 ct,IV.vslice none 0 ml 17 cl]]) (aM (nm==[]) (aM (to==[]) (aM (n==0) ((ak=0/\an=0/\anm=[]/\aop=0/\am=0/\ac=[])/\Q (.bool ((↑m:Int)==0)) h) (Q (.bool false) h)) (Q (.bool false) h)) (Q (.bool false) h))):=by kernel_rfl
theorem g6L: ∀xs h Q,f4S xs h Q->aU env 231 xs h Q:=by
 intro xs h Q hk;unfold f4S at hk;split at hk
 ·rename_i k nm to n ak an anm aop am ac vk vn vnm vop vm vc m c mt ct ml cl;refine aS (e9Q) (g6K k n nm to ak an anm aop am ac vk vn vnm vop vm vc m c mt ct ml cl h Q) ?_;delta iI;obtain⟨⟨⟨rfl,rfl,rfl⟩,⟨rfl,rfl,rfl,rfl,rfl,rfl⟩,⟨rfl,rfl⟩,p1,p2,p3⟩,hk⟩:=hk;exact aA (by simp only [aN,bL,p1,p2,p3,h1L]) (bt rfl (bt rfl (bt rfl ⟨⟨rfl,rfl,rfl,rfl,rfl,rfl⟩,hk⟩)))
 ·exact hk.elim
def f4T:=bB 231 f4S f4R
theorem e9R:aT env f4T:=aI g6L (e9Q)
def f4U(xs:List IV)(h:Heap)(K:KT):Prop:=match xs with
 | [.agg [.int .i64 k,.str nm,.str to,.int .i64 n,.int .i64 ak,.int .i64 an,.str anm,.int .i64 aop,.vslice none 0 am 5 ac,.int .i64 vk,.int .i64 vn,.str vnm,.int .i64 vop,.vslice none 0 vm 5 vc,.vslice none 0 m 5 c,.vslice none 0 mt 17 ct,.vslice none 0 ml 17 cl]]=> ∃(aks vks args:List E)(th el:List S)(f:Int),(am=aks.length/\ac=aW aks/\vm=vks.length/\vc=aW vks/\m=args.length/\c=aW args/\mt=th.length/\ct=aX th/\ml=el.length/\cl=aX el)/\(lC f k nm to n (.mk ak an anm aop aks) (.mk vk vn vnm vop vks) args th el/\(E.dp (.mk ak an anm aop aks)<=5/\E.dp (.mk vk vn vnm vop vks)<=5/\∀x∈args,x.dp<=5))/\K (.bool true) h
 |_=>False
def c7F(k n ak an aop vk vn vop:Int)(nm to anm vnm:List UInt8)(aks vks args:List E)(th el:List S)(h:Heap)(Q:KT):=aM ((↑th.length:Int)==0) (aM (k==1) (aM ((↑el.length:Int)==0) (List.Mem nm nH/\aM (to==[]) (aM (n==0) ((ak=0/\an=0/\anm=[]/\aop=0/\aks.length=0/\aW aks=[])/\aM ((↑args.length:Int)==0) (∃(d:Nat),∃(ks:List E),∃(f:Int),(vks.length=ks.length/\aW
 vks=aW ks)/\(Es.dp ks<d/\E.wf f (E.mk vk vn vnm vop ks))/\Q (.bool true) h) (Q (.bool false) h)) (Q (.bool false) h)) (Q (.bool false) h)) (Q (.bool false) h)) (aM (k==2) (aM ((↑el.length:Int)==0) (List.Mem nm nH/\aM (to==[]) (aM (n==0) (∃(d:Nat),∃(ks:List E),∃(f:Int),
 (aks.length=ks.length/\aW aks=aW ks)/\(Es.dp ks<d/\E.wf f (E.mk ak an anm aop ks))/\aM ((↑args.length:Int)==0) (∃(d:Nat),∃(ks:List E),∃(f:Int),(vks.length=ks.length/\aW vks=aW ks)/\(Es.dp ks<d/\E.wf f (E.mk vk vn vnm vop ks))/\Q (.bool true) h) (Q (.bool false)
 h)) (Q (.bool false) h)) (Q (.bool false) h)) (Q (.bool false) h)) (aM (k==3) (((nm=[]/\to=[]/\n=0)/\(ak=0/\an=0/\anm=[]/\aop=0/\aks.length=0/\aW aks=[])/\(args.length=0/\aW args=[])/\aN (aW vks)=true/\aN (aX th)=true/\aN (aX el)=true)/\∃ (d
 :Nat),∃(ks:List E),∃(f:Int),(vks.length=ks.length/\aW vks=aW ks)/\(Es.dp ks<d/\E.wf f (E.mk vk vn vnm vop ks))/\Q (.bool true) h) (aM (k==4) (((nm=[]/\to=[]/\n=0)/\(ak=0/\an=0/\anm=[]/\aop=0/\aks.length=0/\aW aks=[])/\(args.length=0/\aW args=
 [])/\aN (aW vks)=true/\aN (aX th)=true/\aN (aX el)=true)/\∃(d:Nat),∃(ks:List E),∃(f:Int),(vks.length=ks.length/\aW vks=aW ks)/\(Es.dp ks<d/\E.wf f (E.mk vk vn vnm vop ks))/\Q (.bool ((↑el.length:Int)==0)) h) (aM (k==5) (aM ((↑el.length:Int)==0)
 (((nm=[]/\to=[]/\n=0)/\(ak=0/\an=0/\anm=[]/\aop=0/\aks.length=0/\aW aks=[])/\(args.length=0/\aW args=[])/\aN (aW vks)=true/\aN (aX th)=true/\aN (aX el)=true)/\∃(d:Nat),∃(ks:List E),∃(f:Int),(vks.length=ks.length/\aW vks=aW ks)
 /\(Es.dp ks<d/\E.wf f (E.mk vk vn vnm vop ks))/\Q (.bool true) h) (Q (.bool false) h)) (aM (k==6) (aM ((↑el.length:Int)==0) (List.Mem nm nH/\List.Mem to nH/\aM (n==0) ((ak=0/\an=0/\anm=[]/\aop=0/\aks.length=0/\aW aks=[])/\(vk=0/\vn=0/\vnm=[]/\vop=0/\
 vks.length=0/\aW vks=[])/\Q (.bool true) h) (Q (.bool false) h)) (Q (.bool false) h)) (aM (k==7) (aM ((↑el.length:Int)==0) (aM (nm==[]) (aM (to==[]) (aM (decide (n>=0)) (aM (decide (n<=1000000)) ((ak=0/\an=0/\anm=[]/\aop=0/\aks.length=0/\aW aks=[])/\(vk=0
 /\vn=0/\vnm=[]/\vop=0/\vks.length=0/\aW vks=[])/\Q (.bool ((↑args.length:Int)==0)) h) (Q (.bool false) h)) (Q (.bool false) h)) (Q (.bool false) h)) (Q (.bool false) h)) (Q (.bool false) h)) (Q (.bool false) h)))))))) (aM (k==1) (Q (.bool false) h) (aM (k==2) (Q (.bool false)
 h) (aM (k==3) (((nm=[]/\to=[]/\n=0)/\(ak=0/\an=0/\anm=[]/\aop=0/\aks.length=0/\aW aks=[])/\(args.length=0/\aW args=[])/\aN (aW vks)=true/\aN (aX th)=true/\aN (aX el)=true)/\∃(d:Nat),∃(ks:List E),∃(f:Int),(vks.length=ks.length/\
 aW vks=aW ks)/\(Es.dp ks<d/\E.wf f (E.mk vk vn vnm vop ks))/\Q (.bool true) h) (aM (k==4) (((nm=[]/\to=[]/\n=0)/\(ak=0/\an=0/\anm=[]/\aop=0/\aks.length=0/\aW aks=[])/\(args.length=0/\aW args=[])/\aN (aW vks)=true/\aN (aX th)=true/\aN (aX
 el)=true)/\∃(d:Nat),∃(ks:List E),∃(f:Int),(vks.length=ks.length/\aW vks=aW ks)/\(Es.dp ks<d/\E.wf f (E.mk vk vn vnm vop ks))/\Q (.bool ((↑el.length:Int)==0)) h) (aM (k==5) (Q (.bool false) h) (aM (k==6) (Q (.bool false) h) (aM (k==7) (Q (.bool false) h) (Q (.bool
 false) h))))))))
theorem g6M(k:Int)(nm to:List UInt8)(n:Int)(ak an:Int)(anm:List UInt8)(aop:Int)(aks:List E)(vk vn:Int)(vnm:List UInt8)(vop:Int)(vks:List E)(args:List E)(th el:List S)(h:Heap)(Q:KT):dF (aV f4T) env 219 (fun k=>if k=3 then 3 else 0) bT bT [.agg [.int .i64 k,.str nm,.str to,.int .i64 n,.int .i64 ak,.int .i64 an,.str anm,.int .i64 aop,.vslice none 0 aks.length 5 (aW aks),.int .i64 vk,.int .i64 vn,.str vnm,.int .i64 vop,.vslice none 0 vks.length 5 (aW vks),.vslice none 0 args.length 5 (aW args),.vslice none 0 th.length 17 (aX th),.vslice none 0 el.length 17 (aX el)]] h Q=(
 aC (aN [IV.agg [.int .i64 k,IV.str nm,IV.str to,iI n,iI ak,iI an,IV.str anm,iI aop,IV.vslice none 0 aks.length 5 (aW aks),iI vk,iI vn,IV.str vnm,iI vop,IV.vslice none 0 vks.length 5 (aW vks),IV.vslice none 0 args.length 5 (aW args),IV.vslice none 0 th.length 17 (aX th),IV.vslice none 0 el.length 17 (aX el)]]) (aM (decide (0< (↑(args.length):Int))) (aC (true&&decide (0< (↑args.length:Int))) (aK .i64 (aW args) 0 fun n0=>aK .i64 (aW args) 1 fun n1=>bZ (aW args) 2 fun(s2:List UInt8)=>aK .i64 (aW args) 3 fun n3=>bH 5 (aW args) 4 fun(i4:Option Nat)(e5 l6:Nat)(c7:List IV)=> ∃(d:Nat),∃(ks:List E),∃(f:Int),(l6=ks.length/\c7=aW ks)/\(Es.dp ks<d/\E.wf f (E.mk n0 n1 s2 n3 ks))/\aM (decide (1< (↑args.length:Int))) (aC (true&&decide ((1:Int)< (↑args.length:Int))) (aK .i64 (aW args) 5 fun n8=>aK .i64 (aW args) 6 fun n9=>bZ (aW args) 7 fun(s10:List UInt8)=>aK .i64 (aW args) 8 fun n11=>bH 5 (aW args) 9 fun(i12:Option Nat)(e13 l14:Nat)(c15:List IV)=> ∃(d:Nat),∃(ks:List E),∃(f:Int),(l14=ks.length/\c15=aW ks)/\(Es.dp ks<d/\E.wf f (E.mk n8 n9 s10 n11 ks))/\aM (decide (2< (↑args.length:Int))) (aC (true&&decide (2< (↑args.length:Int))) (aK .i64 (aW args) 10 fun n16=>aK .i64 (aW args) 11 fun n17=>bZ (aW args) 12 fun(s18:List UInt8)=>aK .i64 (aW args) 13 fun n19=>bH 5 (aW args) 14 fun(i20:Option Nat)(e21 l22:Nat)(c23:List IV)=> ∃(d:Nat),∃(ks:List E),∃(f:Int),(l22=ks.length/\c23=aW ks)/\(Es.dp ks<d/\E.wf f (E.mk n16 n17 s18 n19 ks))/\False)) (c7F k n ak an aop vk vn vop nm to anm vnm aks vks args th el h Q))) (c7F k n ak an aop vk vn vop nm to anm vnm aks vks args th el h Q))) (c7F k n ak an aop vk vn vop nm to anm vnm aks vks args th el h Q))):=by kernel_rfl
theorem g6N: ∀xs h Q,f4U xs h Q->aU env 219 xs h Q:=by
 intro xs h Q hk;unfold f4U at hk;split at hk
 ·rename_i k nm to n ak an anm aop am ac vk vn vnm vop vm vc m c mt ct ml cl;obtain⟨aks,vks,args,th,el,f,⟨rfl,rfl,rfl,rfl,rfl,rfl,rfl,rfl,rfl,rfl⟩,⟨hn,he⟩,hk⟩:=hk;refine aS (e9R) (g6M k nm to n ak an anm aop aks vk vn vnm vop vks args th el h Q) ?_;delta c7F iI;obtain⟨da,dv,dr⟩:=he;have da':Es.dp aks<=5:=da;have dv':Es.dp vks<=5:=dv;refine aA (by simp only [aN,bL,bG,bW,bP,cI,h1L]) ?_;unfold lC at hn;rcases hn with⟨rfl,hnm,rfl,rfl,ha,hv,rfl,rfl,rfl⟩| ⟨rfl,hnm,rfl,rfl,ha,hv,rfl,rfl,rfl⟩| ⟨rfl,rfl,rfl,rfl,ha,hv,rfl⟩| ⟨rfl,rfl,rfl,rfl,ha,hv,rfl,rfl⟩| ⟨rfl,rfl,rfl,rfl,ha,hv,rfl,rfl,rfl⟩| ⟨rfl,hnm,hto,rfl,ha,hv,hargs,rfl,rfl⟩| ⟨rfl,rfl,rfl,⟨hn0,hn1⟩,ha,hv,rfl,rfl,rfl⟩
  ·obtain⟨rfl,rfl,rfl,rfl,rfl⟩:=E.mk.inj (ha:E.mk _ _ _ _ _=E.mk 0 0 [] 0 []);exact nG (by decide) (bt rfl (bt rfl (bt rfl ⟨c6F hnm,bt rfl (bt rfl ⟨⟨rfl,rfl,rfl,rfl,rfl,rfl⟩,bt rfl ⟨1000,vks,f,⟨rfl,rfl⟩,⟨by omega,hv⟩,hk⟩⟩)⟩)))
  ·exact nG (by decide) (bt rfl (bf rfl (bt rfl (bt rfl ⟨d4V hnm,bt rfl (bt rfl ⟨1000,aks,f,⟨rfl,rfl⟩,⟨by omega,ha⟩,bt rfl ⟨1000,vks,f,⟨rfl,rfl⟩,⟨by omega,hv⟩,hk⟩⟩)⟩))))
  ·obtain⟨rfl,rfl,rfl,rfl,rfl⟩:=E.mk.inj (ha:E.mk _ _ _ _ _=E.mk 0 0 [] 0 []);exact nG (by decide) (bx (bf rfl (bf rfl (bt rfl ⟨⟨⟨rfl,rfl,rfl⟩,⟨rfl,rfl,rfl,rfl,rfl,rfl⟩,⟨rfl,rfl⟩,bW _,bP _,bP _⟩,1000,vks,f,⟨rfl,rfl⟩,⟨by omega,hv⟩,hk⟩))) (bf rfl (bf rfl (bt rfl ⟨⟨⟨rfl,rfl,rfl⟩,⟨rfl,rfl,rfl,rfl,rfl,rfl⟩,⟨rfl,rfl⟩,bW _,bP _,bP _⟩,1000,vks,f,⟨rfl,rfl⟩,⟨by omega,hv⟩,hk⟩))))
  ·obtain⟨rfl,rfl,rfl,rfl,rfl⟩:=E.mk.inj (ha:E.mk _ _ _ _ _=E.mk 0 0 [] 0 []);exact nG (by decide) (bx (bf rfl (bf rfl (bf rfl (bt rfl ⟨⟨⟨rfl,rfl,rfl⟩,⟨rfl,rfl,rfl,rfl,rfl,rfl⟩,⟨rfl,rfl⟩,bW _,bP _,bP _⟩,1000,vks,f,⟨rfl,rfl⟩,⟨by omega,hv⟩,hk⟩)))) (bf rfl (bf rfl (bf rfl (bt rfl ⟨⟨⟨rfl,rfl,rfl⟩,⟨rfl,rfl,rfl,rfl,rfl,rfl⟩,⟨rfl,rfl⟩,bW _,bP _,bP _⟩,1000,vks,f,⟨rfl,rfl⟩,⟨by omega,hv⟩,hk⟩)))))
  ·obtain⟨rfl,rfl,rfl,rfl,rfl⟩:=E.mk.inj (ha:E.mk _ _ _ _ _=E.mk 0 0 [] 0 []);exact nG (by decide) (bt rfl (bf rfl (bf rfl (bf rfl (bf rfl (bt rfl (bt rfl ⟨⟨⟨rfl,rfl,rfl⟩,⟨rfl,rfl,rfl,rfl,rfl,rfl⟩,⟨rfl,rfl⟩,bW _,bP _,bP _⟩,1000,vks,f,⟨rfl,rfl⟩,⟨by omega,hv⟩,hk⟩)))))))
  ·obtain⟨rfl,rfl,rfl,rfl,rfl⟩:=E.mk.inj (ha:E.mk _ _ _ _ _=E.mk 0 0 [] 0 []);obtain⟨rfl,rfl,rfl,rfl,rfl⟩:=E.mk.inj (hv:E.mk _ _ _ _ _=E.mk 0 0 [] 0 []);have l0:0<args.length:=by omega
   refine brT (by omega) (aA (by rw [h2G,decide_eq_true_eq];omega) (b0Y (i:=0) l0 rfl fun k2 n2 nm2 op2 q e2=>?_));have w4:=Es.wf_mem hargs (h1B l0);have d4:=dr _ (h1B l0);rw [e2]at w4 d4;have d4':Es.dp q<=5:=d4;refine⟨1000,q,f,⟨rfl,rfl⟩,⟨by omega,w4⟩,?_⟩;rcases hto with⟨rfl,hl⟩| ⟨rfl,hl⟩
   ·have l1:1<args.length:=by omega
    refine brT (by omega) (aA (by rw [h2G,decide_eq_true_eq];omega) (b0Y (i:=1) l1 rfl fun k3 n3 nm3 op3 q3 e3=>?_));have w5:=Es.wf_mem hargs (h1B l1);have d5:=dr _ (h1B l1);rw [e3]at w5 d5;have d5':Es.dp q3<=5:=d5;exact⟨1000,q3,f,⟨rfl,rfl⟩,⟨by omega,w5⟩,nG (by omega) (bt rfl (bf rfl (bf rfl (bf rfl (bf rfl (bf rfl (bt rfl (bt rfl ⟨c6F hnm,(by first|decide|exact fG (by decide)),bt rfl ⟨⟨rfl,rfl,rfl,rfl,rfl,rfl⟩,⟨rfl,rfl,rfl,rfl,rfl,rfl⟩,hk⟩⟩))))))))⟩
   ·exact nG (by omega) (bt rfl (bf rfl (bf rfl (bf rfl (bf rfl (bf rfl (bt rfl (bt rfl ⟨c6F hnm,(by first|decide|exact fG (by decide)),bt rfl ⟨⟨rfl,rfl,rfl,rfl,rfl,rfl⟩,⟨rfl,rfl,rfl,rfl,rfl,rfl⟩,hk⟩⟩))))))))
  ·obtain⟨rfl,rfl,rfl,rfl,rfl⟩:=E.mk.inj (ha:E.mk _ _ _ _ _=E.mk 0 0 [] 0 []);obtain⟨rfl,rfl,rfl,rfl,rfl⟩:=E.mk.inj (hv:E.mk _ _ _ _ _=E.mk 0 0 [] 0 []);exact nG (by decide) (bt rfl (bf rfl (bf rfl (bf rfl (bf rfl (bf rfl (bf rfl (bt rfl (bt rfl (bt rfl (bt rfl (brT (by omega) (brT (by omega) ⟨⟨rfl,rfl,rfl,rfl,rfl,rfl⟩,⟨rfl,rfl,rfl,rfl,rfl,rfl⟩,hk⟩)))))))))))))
 ·exact hk.elim
def f4V:=bB 219 f4U f4T
theorem e9S:aT env f4V:=aI g6N (e9R)
def d7J(d:Nat)(xs:List IV)(h:Heap)(K:KT):Prop:=match xs with
 | [.vslice none 0 m 17 c]=> ∃(l:List S)(f:Int),(m=l.length/\c=aX l)/\(Ss.cnt l<d/\Ss.cnt l<=1000/\Ss.wf f l/\Ss.ed 5 l)/\K (.bool true) h
 |_=>False
def b6O(l:List S):=TV.v (.vslice none 0 l.length 17 (aX l))
theorem g6O(dd:Nat)(l:List S)(h:Heap)(Q:KT):dF (aV (bB 199 (d7J dd) f4V)) env 199 dV (tK 3 (e9N l)) bT [.vslice none 0 l.length 17 (aX l)] h Q=(
 aC (aN [IV.vslice none 0 l.length 17 (aX l)]) ((∃(x:Nat),some (b6O l)=some (b6O l)/\tI 0=tI (↑x:Int)/\Heap.mk PT.nil 0=Heap.mk PT.nil 0/\Nat.le x l.length/\True)/\∀(x:Nat)(b:FF),x<=l.length->aM (decide ((↑x:Int)< (↑l.length:Int))) (aC (decide (0<=(↑x:Int)) &&decide ((↑x:Int)< (↑l.length:Int))) (aK .i64 (aX l) ((↑x:Int).toNat*17) fun n0=>bZ (aX l) ((↑x:Int).toNat*(17:Nat)+1) fun(s1:List UInt8)=>bZ (aX l) ((↑x:Int).toNat*17+1+1) fun(s2:List UInt8)=>aK .i64 (aX l) ((↑x:Int).toNat*17+1+1+1) fun n3=>aK .i64 (aX l) ((↑x:Int).toNat*17+1+1+1+1) fun n4=>aK .i64 (aX l) ((↑x:Int).toNat*17+1+1+1+1+1) fun n5=>bZ (aX l) ((↑x:Int).toNat*17+1+1+(1:Nat)+1+1+1) fun(s6:List UInt8)=>aK .i64 (aX l) ((↑x:Int).toNat*17+1+1+1+1+1+1+1) fun n7=>bH 5 (aX l) ((↑x:Int).toNat*17+1+(1:Nat)+1+1+1+1+1+1) fun(i8:Option Nat)(e9 l10:Nat)(c11:List IV)=>aK .i64 (aX l) ((↑x:Int).toNat*17+1+1+1+1+1+1+1+1+(1:Nat)) fun n12=>aK .i64 (aX l) ((↑x:Int).toNat*17+1+1+1+1+1+1+1+1+1+1) fun n13=>bZ (aX l) ((↑x:Int).toNat*17+1+1+(1:Nat)+1+1+1+1+1+1+1+1) fun(s14:List UInt8)=>aK .i64 (aX l) ((↑x:Int).toNat*17+1+1+1+1+1+1+1+1+1+(1:Nat)+1+1) fun n15=>bH 5 (aX l) ((↑x:Int).toNat*17+1+1+1+1+1+1+1+1+1+1+1+1+1) fun(i16:Option Nat)(e17 l18:Nat)(c19:List IV)=>bH 5 (aX l) ((↑x:Int).toNat*17+1+1+1+1+1+1+1+1+1+1+1+1+1+1) fun(i20:Option Nat)(e21 l22:Nat)(c23:List IV)=>bH 17 (aX l) ((↑x:Int).toNat*17+1+1+1+1+1+1+1+1+1+1+1+1+1+1+1) fun(i24:Option Nat)(e25 l26:Nat)(c27:List IV)=>bH 17 (aX l) ((↑x:Int).toNat*17+1+1+1+1+1+1+1+1+1+1+1+1+1+1+1+1) fun(i28:Option Nat)(e29 l30:Nat)(c31:List IV)=> ∃(aks vks args:List E),∃(th:List M10.S),∃(el:List M10.S),∃(f:Int),(l10=aks.length/\c11=aW aks/\l18=vks.length/\c19=aW vks/\l22=args.length/\c23=aW args/\l26=th.length/\c27=aX th/\l30=el.length/\c31=aX el)/\(lC f n0 s1 s2 n3 (E.mk n4 n5 s6 n7 aks) (E.mk n12 n13 s14 n15 vks) args th el/\E.dp (E.mk n4 n5 s6 n7 aks)<=5/\E.dp (E.mk n12 n13 s14 n15 vks)<=5/\∀(x:E),x∈args->E.dp x<=5)/\aC (decide (0<=(↑x:Int)) &&decide ((↑x:Int)< (↑(l.length):Int))) (bH 17 (aX l) ((↑x:Int).toNat*17+15) fun(i32:Option Nat)(e33 l34:Nat)(c35:List IV)=> ∃(l_1:List M10.S),∃(f:Int),(l34=l_1.length/\c35=aX l_1)/\(Ss.cnt l_1<dd/\Ss.cnt l_1<=1000/\Ss.wf f l_1/\Ss.ed (5:Nat) l_1)/\aC (decide (0<=(↑x:Int)) &&decide ((↑x:Int)< (↑l.length:Int))) (bH 17 (aX l) ((↑x:Int).toNat*17+16) fun(i36:Option Nat)(e37 l38:Nat)(c39:List IV)=> ∃(l_2:List M10.S),∃(f:Int),(l38=l_2.length/\c39=aX l_2)/\(Ss.cnt l_2<dd/\Ss.cnt l_2<=1000/\Ss.wf f l_2/\Ss.ed (5:Nat) l_2)/\∃(x_1:Nat),some (b6O l)=some (b6O l)/\tI (wW ((↑x:Int)+1))=tI (↑x_1:Int)/\Heap.mk PT.nil 0=Heap.mk PT.nil (0:Nat)/\Nat.le x_1 l.length/\l.length-x_1<l.length-x)))) (Q (.bool true) h))):=by kernel_rfl
theorem g6P: ∀d xs h Q,d7J d xs h Q->aU env 199 xs h Q:=by
 intro d
 induction d with
 |zero=>
  intro xs h Q hk;unfold d7J at hk;split at hk
  ·rename_i m c;obtain⟨l,f,⟨rfl,rfl⟩,⟨hd,hb,hw,he⟩,hk⟩:=hk;omega
  ·exact hk.elim
 |succ dd ih=>
  intro xs h Q hk;unfold d7J at hk;split at hk
  ·rename_i m c;obtain⟨l,f,⟨rfl,rfl⟩,⟨hd,hb,hw,he⟩,hk⟩:=hk;refine aS (aI ih (e9S)) (g6O dd l h Q) ?_;delta b6O tI wW;have lc:=Ss.len_cnt l;refine aA (by simp only [aN,bL,bG,bW,bP,cI,h1L]) ⟨⟨0,rfl,rfl,rfl,h1N _,trivial⟩,?_⟩;rintro i _ hi;refine dW (fun c=>?_) (fun c=>hk);have hlt:i<l.length:=by omega
   refine aP (by omega) (e5U hlt (by rw [h0Z]) fun k nm to n ak an anm aop aks vk vn vnm vop vks args th el e=>?_);have h1:=Ss.cnt_mem (h1B hlt);have e1:l[i].cnt=1+Ss.cnt th+Ss.cnt el:=by rw [e];rfl
   have hwf:=Ss.wf_mem hw (h1B hlt);have hed:=Ss.ed_mem he (h1B hlt);rw [e]at hwf hed;obtain⟨hn,hw1,hw2⟩:=hwf;obtain⟨hab,hd1,hd2⟩:=hed;exact⟨aks,vks,args,th,el,f,⟨rfl,rfl,rfl,rfl,rfl,rfl,rfl,rfl,rfl,rfl⟩,⟨hn,hab⟩,aP (by omega) (a8N hlt e (by rw [h0Z]) ⟨th,f,⟨rfl,rfl⟩,⟨by omega,by omega,hw1,hd1⟩,aP (by omega) (a8O hlt e (by rw [h0Z]) ⟨el,f,⟨rfl,rfl⟩,⟨by omega,by omega,hw2,hd2⟩,i+1,rfl,(by(try dsimp only);rw [h0X _ (by omega)];rfl),rfl,hlt,by omega⟩)⟩)⟩
  ·exact hk.elim
def f4W:=bB 199 (fun xs h K=> ∃d,d7J d xs h K) f4V
theorem e9T:aT env f4W:=aI (fun xs h Q hk=>hk.elim fun d hk=>g6P d xs h Q hk) (e9S)
def f4X(xs:List IV)(h:Heap)(K:KT):Prop:=match xs with
 | [.agg [.vslice none 0 2 2 ac,.vslice none 0 2 9 fc]]=>qG ac fc/\K (.bool true) h
 |_=>False
theorem g6Q(la lb:Int)(b0:List S)(uk un:Int)(unm:List UInt8)(uop:Int)(uks:List E)(b1:List S)(wk wn:Int)(wnm:List UInt8)(wop:Int)(wks:List E)(h:Heap)(Q:KT):dF (aV f4W) env 143 (fun k=>if k=3 then 3 else if k=8 then 3 else if k=13 then 6 else 0) bT bT [.agg [.vslice none 0 2 2 [.str [97],.int .i64 la,.str [98],.int .i64 lb],.vslice none 0 2 9 [.str [102],.vslice none 1 2 1 [.str [120],.str [121]],.vslice none 1 2 1 [.str [105],.str [106]],.vslice none 0 b0.length 17 (aX b0),.int .i64 uk,.int .i64 un,.str unm,.int .i64 uop,.vslice none 0 uks.length 5 (aW uks),.str [103],.vslice none 1 1 1 [.str [110]],.vslice none 1 1 1 [.str [105]],.vslice none 0 b1.length 17 (aX b1),.int .i64 wk,.int .i64 wn,.str wnm,.int .i64 wop,.vslice none 0 wks.length 5 (aW wks)]]] h Q=(
 aC (aN [IV.agg [.vslice none 0 2 2 [IV.str [97],iI la,IV.str [98],iI lb],IV.vslice none 0 2 9 [IV.str [102],IV.vslice none 1 2 1 [IV.str [120],IV.str [121]],IV.vslice none 1 2 1 [IV.str [105],IV.str [106]],IV.vslice none 0 b0.length 17 (aX b0),iI uk,iI un,IV.str unm,iI uop,IV.vslice none 0 (uks.length) 5 (aW uks),IV.str [103],IV.vslice none 1 1 1 [IV.str [110]],IV.vslice none 1 1 1 [IV.str [105]],IV.vslice none 0 b1.length 17 (aX b1),iI wk,iI wn,IV.str wnm,iI wop,IV.vslice none 0 wks.length 5 (aW wks)]]]) (List.Mem [97] nH/\List.Mem [98] nH/\List.Mem [102] nH/\List.Mem [120] nH/\List.Mem [121] nH/\List.Mem [105] nH/\List.Mem [106] nH/\∃(d:Nat),∃(l:List M10.S),∃(f:Int),(b0.length=l.length/\aX b0=aX l)/\(Ss.cnt l<d/\Ss.cnt l<=1000/\Ss.wf f l/\Ss.ed (5:Nat) l)/\∃(d:Nat),∃(ks:List E),∃(f:Int),(uks.length=ks.length/\aW uks=aW ks)/\(Es.dp ks<d/\E.wf f (E.mk uk un unm uop ks))/\List.Mem [103] nH/\List.Mem [110] nH/\List.Mem [105] nH/\∃(d:Nat),∃(l:List M10.S),∃(f:Int),(b1.length=l.length/\aX b1=aX l)/\(Ss.cnt l<d/\Ss.cnt l<=1000/\Ss.wf f l/\Ss.ed (5:Nat) l)/\∃(d:Nat),∃(ks:List E),∃(f:Int),(wks.length=ks.length/\aW wks=aW ks)/\(Es.dp ks<d/\E.wf f (E.mk wk wn wnm wop ks))/\Q (.bool true) h)):=by kernel_rfl
theorem g6R: ∀xs h Q,f4X xs h Q->aU env 143 xs h Q:=by
 intro xs h Q hk;unfold f4X at hk;split at hk
 ·rename_i ac fc;obtain⟨⟨la,lb,b0,⟨uk,un,unm,uop,uks⟩,b1,⟨wk,wn,wnm,wop,wks⟩,hp,rfl,rfl⟩,hk⟩:=hk;refine aS (e9T) (g6Q la lb b0 uk un unm uop uks b1 wk wn wnm wop wks h Q) ?_;delta tI wW iI;obtain⟨_,g0,g1⟩:=hp;have x0:=g0.cnt;have x3:Es.dp uks<=5:=g0.vd;have y0:=g1.cnt;have y3:Es.dp wks<=5:=g1.vd;exact aA (by simp only [aN,bL,bG,bW,bP,cI,h1L]) ⟨(by first|decide|exact fG (by decide)),(by first|decide|exact fG (by decide)),(by first|decide|exact fG (by decide)),(by first|decide|exact fG (by decide)),(by first|decide|exact fG (by decide)),(by first|decide|exact fG (by decide)),(by first|decide|exact fG (by decide)),1000,b0,0,⟨rfl,rfl⟩,⟨by omega,by omega,g0.wf,g0.ed⟩,1000,uks,0,⟨rfl,rfl⟩,⟨by omega,g0.vw⟩,(by first|decide|exact fG (by decide)),(by first|decide|exact fG (by decide)),(by first|decide|exact fG (by decide)),1000,b1,1,⟨rfl,rfl⟩,⟨by omega,by omega,g1.wf,g1.ed⟩,1000,wks,1,⟨rfl,rfl⟩,⟨by omega,g1.vw⟩,hk⟩
 ·exact hk.elim
def f4Y:=bB 143 f4X f4W
theorem e9U:aT env f4Y:=aI g6R (e9T)
def f4Z(xs:List IV)(h:Heap)(K:KT):Prop:=match xs with
 | [.agg [.vslice none 0 2 2 ac,.vslice none 0 2 9 fc]]=>lD ac fc/\K (.bool false) h
 |_=>False
def sI:=IV.bool true
def xP:List UInt8:=[97]
def a0U:List UInt8:=[98]
abbrev d7K(l:List (List UInt8)):=(2:Nat)=l.length/\[IV.str xP,IV.str a0U]=List.map IV.str l
theorem g6S(la lb:Int)(b0:List S)(uk un:Int)(unm:List UInt8)(uop:Int)(uks:List E)(b1:List S)(wk wn:Int)(wnm:List UInt8)(wop:Int)(wks:List E)(h:Heap)(Q:KT):dF (aV f4Y) env 144 (fun k=>7) bT bT [.agg [.vslice none 0 2 2 [.str [97],.int .i64 la,.str [98],.int .i64 lb],.vslice none 0 2 9 [.str [102],.vslice none 1 2 1 [.str [120],.str [121]],.vslice none 1 2 1 [.str [105],.str [106]],.vslice none 0 b0.length 17 (aX b0),.int .i64 uk,.int .i64 un,.str unm,.int .i64 uop,.vslice none 0 uks.length 5 (aW uks),.str [103],.vslice none 1 1 1 [.str [110]],.vslice none 1 1 1 [.str [105]],.vslice none 0 b1.length 17 (aX b1),.int .i64 wk,.int .i64 wn,.str wnm,.int .i64 wop,.vslice none 0 wks.length 5 (aW wks)]]] h Q=(
 aC (aN [IV.agg [.vslice none 0 2 2 [IV.str xP,iI la,IV.str a0U,iI lb],IV.vslice none 0 2 9 [IV.str [102],IV.vslice none 1 2 1 [IV.str [120],IV.str [121]],IV.vslice none 1 2 1 [IV.str [105],IV.str [106]],IV.vslice none 0 b0.length 17 (aX b0),iI uk,iI un,IV.str unm,iI uop,IV.vslice none 0 uks.length 5 (aW uks),IV.str [103],IV.vslice none 1 1 1 [IV.str [110]],IV.vslice none 1 1 1 [IV.str [105]],IV.vslice none 0 b1.length 17 (aX b1),iI wk,iI wn,IV.str wnm,iI wop,IV.vslice none 0 wks.length 5 (aW wks)]]]) (∃(l:List (List UInt8)),((0:Nat)=l.length/\[]=List.map IV.str l)/\l.length<=1000/\aM (decide (xP∈l)) (Q sI h) (∃(l:List (List UInt8)),((1:Nat)=l.length/\[IV.str xP]=List.map IV.str l)/\l.length<=1000/\aM (decide (a0U∈l)) (Q sI h) (∃(l:List (List UInt8)),((0:Nat)=l.length/\[]=List.map IV.str l)/\l.length<=1000/\aM (decide ([102] ∈l)) (Q sI h) (∃(l:List (List UInt8)),(d7K l)/\l.length<=(1000:Nat)/\aM (decide ([120] ∈l)) (Q sI h) (∃(l:List (List UInt8)),((3:Nat)=l.length/\[IV.str xP,IV.str a0U,IV.str [120]]=List.map IV.str l)/\l.length<=1000/\aM (decide ([121] ∈l)) (Q sI h) (∃(l:List (List UInt8)),((4:Nat)=l.length/\[IV.str xP,IV.str a0U,IV.str [120],IV.str [121]]=List.map IV.str l)/\l.length<=1000/\aM (decide ([105] ∈l)) (Q sI h) (∃(l:List (List UInt8)),((5:Nat)=l.length/\[IV.str xP,IV.str a0U,IV.str [(120:UInt8)],IV.str [121],IV.str [105]]=List.map IV.str l)/\l.length<=1000/\aM (decide ([106] ∈l)) (Q sI h) (∃(l:List (List UInt8)),((1:Nat)=l.length/\[IV.str [102]]=List.map IV.str l)/\l.length<=1000/\aM (decide ([103] ∈l)) (Q sI h) (∃(l:List (List UInt8)),(d7K l)/\l.length<=1000/\aM (decide ([110] ∈l)) (Q sI h) (∃(l:List (List UInt8)),((3:Nat)=l.length/\[IV.str xP,IV.str a0U,IV.str [110]]=List.map IV.str l)/\l.length<=(1000:Nat)/\aM (decide ([105] ∈l)) (Q sI h) (Q (.bool false) h)))))))))))):=by kernel_rfl
theorem g6T: ∀xs h Q,f4Z xs h Q->aU env 144 xs h Q:=by
 intro xs h Q hk;unfold f4Z at hk;split at hk
 ·rename_i ac fc;obtain⟨⟨la,lb,b0,⟨uk,un,unm,uop,uks⟩,b1,⟨wk,wn,wnm,wop,wks⟩,rfl,rfl⟩,hk⟩:=hk;refine aS (e9U) (g6S la lb b0 uk un unm uop uks b1 wk wn wnm wop wks h Q) ?_;delta sI xP a0U d7K iI;exact aA (by simp only [aN,bL,bG,bW,bP,cI,h1L]) ⟨[],⟨rfl,rfl⟩,(by first|decide|exact fG (by decide)),nG ((by first|decide|exact fG (by decide))) ⟨[[97]],⟨rfl,rfl⟩,(by first|decide|exact fG (by decide)),nG ((by first|decide|exact fG (by decide))) ⟨[],⟨rfl,rfl⟩,(by first|decide|exact fG (by decide)),nG ((by first|decide|exact fG (by decide))) ⟨[[97],[98]],⟨rfl,rfl⟩,(by first|decide|exact fG (by decide)),nG ((by first|decide|exact fG (by decide))) ⟨[[97],[98],[120]],⟨rfl,rfl⟩,(by first|decide|exact fG (by decide)),nG ((by first|decide|exact fG (by decide))) ⟨[[97],[98],[120],[121]],⟨rfl,rfl⟩,(by first|decide|exact fG (by decide)),nG ((by first|decide|exact fG (by decide))) ⟨[[97],[98],[120],[121],[105]],⟨rfl,rfl⟩,(by first|decide|exact fG (by decide)),nG ((by first|decide|exact fG (by decide))) ⟨[[102]],⟨rfl,rfl⟩,(by first|decide|exact fG (by decide)),nG ((by first|decide|exact fG (by decide))) ⟨[[97],[98]],⟨rfl,rfl⟩,(by first|decide|exact fG (by decide)),nG ((by first|decide|exact fG (by decide))) ⟨[[97],[98],[110]],⟨rfl,rfl⟩,(by first|decide|exact fG (by decide)),nG ((by first|decide|exact fG (by decide))) hk⟩⟩⟩⟩⟩⟩⟩⟩⟩⟩
 ·exact hk.elim
def f5A:=bB 144 f4Z f4Y
theorem e9V:aT env f5A:=aI g6T (e9U)
def f5B(f:Int)(pa pf:List IV)(k n:Int)(nm:List UInt8)(op:Int)(ks:List E):Inv':=hJ Nat (fun i=>[(2,.l 2 0),(3,.l 3 0),(5,.v (.int .i64 (i:Int)))]) (fun _=>[(2,[.vslice none 0 (bN f).length 1 ((bN f).map IV.str),.vslice none 0 2 1 (oW.map IV.str),.vslice none 0 2 2 pa,.vslice none 0 2 9 pf]),(3,[.int .i64 k,.int .i64 n,.str nm,.int .i64 op,.vslice none 0 ks.length 5 (aW ks)])]) (fun _=>Heap.empty) (fun i=>i<=ks.length) (fun i=>ks.length-i)
def d7L(d:Nat)(xs:List IV)(h:Heap)(K:KT):Prop:=match xs with
 | [.agg [.vslice none 0 nv 1 cv,.vslice none 0 2 1 ca,.vslice none 0 2 2 pa,.vslice none 0 2 9 pf],.agg [.int .i64 k,.int .i64 n,.str nm,.int .i64 op,.vslice none 0 m 5 c]]=> ∃(f:Int)(ks:List E),(nv=(bN f).length/\cv=(bN f).map IV.str/\ca=oW.map IV.str)/\(m=ks.length/\c=aW ks)/\(Es.dp ks<d/\(f=0\/f=1)/\(E.wf f (.mk k n nm op ks) \/ (k=0/\ks=[]))/\aN pa=true/\aN pf=true)/\K (.bool true) h
 |_=>False
def b6P:=[IV.str [97],IV.str [98]]
def a9D(f:Int)(pa pf:List IV):=[IV.vslice none 0 ((bN f).length) 1 (List.map IV.str (bN f)),IV.vslice none 0 2 1 b6P,IV.vslice none 0 2 2 pa,IV.vslice none 0 2 9 pf]
def a9E(k n op:Int)(nm:List UInt8)(ks:List E):=[iI k,iI n,IV.str nm,iI op,IV.vslice none 0 ks.length 5 (aW ks)]
def d7M(k:Int)(nm:List UInt8)(h:Heap)(Q:KT):=aM (k !=3) (Q (.bool true) h) (∃(l:List (List UInt8)),((2:Nat)=l.length/\b6P=List.map IV.str l)/\l.length<=1000/\Q (.bool (decide (nm∈l))) h)
def b6Q:=TV.l 2 0
def b6R:=TV.l 3 0
theorem g6U(dd:Nat)(f:Int)(pa pf:List IV)(k n:Int)(nm:List UInt8)(op:Int)(ks:List E)(h:Heap)(Q:KT):dF (aV (bB 146 (d7L dd) f5A)) env 146 dV (tK 3 (f5B f pa pf k n nm op ks)) bT [.agg [.vslice none 0 (bN f).length 1 ((bN f).map IV.str),.vslice none 0 2 1 (oW.map IV.str),.vslice none 0 2 2 pa,.vslice none 0 2 9 pf],.agg [.int .i64 k,.int .i64 n,.str nm,.int .i64 op,.vslice none 0 ks.length 5 (aW ks)]] h Q=(
 aC (aN [IV.agg (a9D f pa pf),IV.agg (a9E k n op nm ks)]) ((∃(x:Nat),some b6Q=some b6Q/\some b6R=some b6R/\tI 0=tI (↑x:Int)/\some (a9D f pa pf)=some (a9D f pa pf)/\some (a9E k n op nm ks)=some (a9E k n op nm ks)/\Heap.mk PT.nil 0=Heap.mk PT.nil 0/\Nat.le x ks.length/\True)/\∀(x:Nat)(b:FF),x<=ks.length->aM (decide ((↑x:Int)< (↑ks.length:Int))) (aC (decide (0<=(↑x:Int)) &&decide ((↑x:Int)< (↑ks.length:Int))) (aK .i64 (aW ks) ((↑x:Int).toNat*5) fun n0=>aK .i64 (aW ks) ((↑x:Int).toNat*5+1) fun n1=>bZ (aW ks) ((↑x:Int).toNat*5+1+1) fun(s2:List UInt8)=>aK .i64 (aW ks) ((↑x:Int).toNat*5+1+1+1) fun n3=>bH 5 (aW ks) ((↑x:Int).toNat*5+1+1+1+1) fun(i4:Option Nat)(e5 l6:Nat)(c7:List IV)=> ∃(f_1:Int),∃(ks_1:List E),((bN f).length=(bN f_1).length/\List.map IV.str (bN f)=List.map IV.str (bN f_1)/\b6P=b6P)/\(l6=ks_1.length/\c7=aW ks_1)/\(Es.dp ks_1<dd/\(f_1=0\/f_1=1)/\(E.wf f_1 (E.mk n0 n1 s2 n3 ks_1) \/n0=0/\ks_1=[])/\aN pa=true/\aN pf=true)/\∃(x_1:Nat),some b6Q=some b6Q/\some b6R=some b6R/\tI (wW ((↑x:Int)+1))=tI (↑x_1:Int)/\some (a9D f pa pf)=some (a9D f pa pf)/\some (a9E k n op nm ks)=some (a9E k n op nm ks)/\Heap.mk PT.nil (0:Nat)=Heap.mk PT.nil 0/\Nat.le x_1 ks.length/\ks.length-x_1<ks.length-x)) (aM (k !=2) (d7M k nm h Q) (∃(l:List (List UInt8)),((bN f).length=l.length/\List.map IV.str (bN f)=List.map IV.str l)/\l.length<=1000/\aM (decide (nm∈l)) (d7M k nm h Q) (Q (.bool false) h))))):=by kernel_rfl
theorem g6V: ∀d xs h Q,d7L d xs h Q->aU env 146 xs h Q:=by
 intro d
 induction d with
 |zero=>
  intro xs h Q hk;unfold d7L at hk;split at hk
  ·rename_i nv cv ca pa pf k n nm op m c;obtain⟨f,ks,⟨rfl,rfl,rfl⟩,⟨rfl,rfl⟩,⟨hd,hf,hw,hpa,hpf⟩,hk⟩:=hk;omega
  ·exact hk.elim
 |succ dd ih=>
  intro xs h Q hk;unfold d7L at hk;split at hk
  ·rename_i nv cv ca pa pf k n nm op m c;obtain⟨f,ks,⟨rfl,rfl,rfl⟩,⟨rfl,rfl⟩,⟨hd,hf,hw,hpa,hpf⟩,hk⟩:=hk;refine aS (aI ih (e9V)) (g6U dd f pa pf k n nm op ks h Q) ?_;delta a9D a9E d7M b6Q b6R b6P tI wW iI;have h3:ks.length<=3:=by
    rcases hw with hw| ⟨_,rfl⟩
    ·exact(EW.of hw).1
    ·simp
   have hkw:Es.wf f ks:=by
    rcases hw with hw| ⟨_,rfl⟩
    ·exact hw.2
    ·trivial
   refine aA (by simp only [aN,bL,bG,bW,bP,cI,h1L,hpa,hpf]) ⟨⟨0,rfl,rfl,rfl,rfl,rfl,rfl,h1N _,trivial⟩,?_⟩;rintro i _ hi;refine dW (fun c=>?_) (fun c=>?_)
   ·have hlt:i<ks.length:=by omega
    refine aP (by omega) (b0Y hlt (by rw [h0Z]) fun k2 n2 nm2 op2 q e=>?_);have h1:=Es.dp_mem (h1B hlt);have h2:ks[i].dp=Es.dp q:=by rw [e];rfl
    have h5:=Es.wf_mem hkw (h1B hlt);rw [e]at h5;exact⟨f,q,⟨rfl,rfl,rfl⟩,⟨rfl,rfl⟩,⟨by omega,hf,.inl h5,hpa,hpf⟩,i+1,rfl,rfl,(by(try dsimp only);rw [h0X _ (by omega)];rfl),rfl,rfl,rfl,hlt,by omega⟩
   rcases hw with hw| ⟨rfl,_⟩
   ·have hn:a6Y f k n nm op ks.length:=hw.1;unfold a6Y at hn;rcases hn with⟨rfl,_⟩| ⟨rfl,_,_,_,hnm⟩| ⟨rfl,_,_,_,hnm⟩| ⟨rfl,_⟩| ⟨rfl,_⟩
    ·exact bt rfl (bt rfl hk)
    ·exact bf rfl ⟨bN f,⟨rfl,rfl⟩,xI f,brT hnm (bt rfl hk)⟩
    ·exact bt rfl (bf rfl ⟨oW,⟨rfl,rfl⟩,(by first|decide|exact fG (by decide)),cO hk (by rw [decide_eq_true hnm])⟩)
    ·exact bt rfl (bt rfl hk)
    ·exact bt rfl (bt rfl hk)
   ·exact bt rfl (bt rfl hk)
  ·exact hk.elim
def f5C:=bB 146 (fun xs h K=> ∃d,d7L d xs h K) f5A
theorem e9W:aT env f5C:=aI (fun xs h Q hk=>hk.elim fun d hk=>g6V d xs h Q hk) (e9V)
def f5D(xs:List IV)(h:Heap)(K:KT):Prop:=match xs with
 | [.agg [.vslice none 0 nv 1 cv,.vslice none 0 2 1 ca,.vslice none 0 2 2 pa,.vslice none 0 2 9 pf],.agg [.int .i64 k,.str nm,.str to,.int .i64 n,.int .i64 ak,.int .i64 an,.str anm,.int .i64 aop,.vslice none 0 am 5 ac,.int .i64 vk,.int .i64 vn,.str vnm,.int .i64 vop,.vslice none 0 vm 5 vc,.vslice none 0 m 5 c,.vslice none 0 mt 17 ct,.vslice none 0 ml 17 cl]]=> ∃(aks vks args:List E)(th el:List S)(f:Int),(am=aks.length/\ac=aW aks/\vm=vks.length/\vc=aW vks/\m=args.length/\c=aW args/\mt=th.length/\ct=aX th/\ml=el.length/\cl=aX el)/\lD pa pf/\(nv=(bN f).length/\cv=(bN f).map IV.str/\ca=oW.map IV.str)/\((f=0\/f=1)/\lC f k nm to n (.mk ak an anm aop aks) (.mk vk vn vnm vop vks) args th el/\(E.dp (.mk ak an anm aop aks)<=5/\E.dp (.mk vk vn vnm vop vks)<=5/\∀x∈args,x.dp<=5))/\K (.bool true) h
 |_=>False
def sJ:=[IV.str [97],IV.str [98]]
def c7G(f k:Int)(pa pf:List IV)(nm to:List UInt8)(h:Heap)(Q:KT):=aM (k==6) (∃(l:List (List UInt8)),((bN f).length=l.length/\List.map IV.str (bN f)=List.map IV.str l)/\l.length<=1000/\aM (decide (nm∈l)) (lD pa pf/\(to=[102] \/to=[103])/\Q (.bool (decide ((if to=[102]then(0:Int)else(1:Int))>=0))) h) (Q (.bool false) h)) (aM
 (k==2) (∃(l:List (List UInt8)),((2:Nat)=l.length/\sJ=List.map IV.str l)/\l.length<=1000/\Q (.bool (decide (nm∈l))) h) (Q (.bool true) h))
abbrev c7H(f:Int)(nm:List UInt8)(h:Heap)(Q:KT):= ∃(l:List (List UInt8)),((bN f).length=l.length/\List.map IV.str (bN f)=List.map IV.str l)/\l.length<=1000/\Q (.bool (decide (nm∈l))) h
abbrev c7I(f f_2:Int):=(bN f).length=(bN f_2).length/\List.map IV.str (bN f)=List.map IV.str (bN f_2)/\sJ=sJ
abbrev c7J(f f_3:Int):=(bN f).length=(bN f_3).length/\List.map IV.str (bN f)=List.map IV.str (bN f_3)/\sJ=sJ
abbrev d7N(f f_1:Int):=(bN f).length=(bN f_1).length/\List.map IV.str (bN f)=List.map IV.str (bN f_1)/\sJ=sJ
abbrev c7K(aks ks:List E):=aks.length=ks.length/\aW aks=aW ks
abbrev c7L(vks ks:List E):=vks.length=ks.length/\aW vks=aW ks
theorem g6W(f:Int)(pa pf:List IV)(k:Int)(nm to:List UInt8)(n:Int)(ak an:Int)(anm:List UInt8)(aop:Int)(aks:List E)(vk vn:Int)(vnm:List UInt8)(vop:Int)(vks:List E)(args:List E)(th el:List S)(h:Heap)(Q:KT):dF (aV f5C) env 203 (fun k=>if k=3 then 3 else 0) bT bT [.agg [.vslice none 0 (bN f).length 1 ((bN f).map IV.str),.vslice none 0 2 1 (oW.map IV.str),.vslice none 0 2 2 pa,.vslice none 0 2 9 pf],.agg [.int .i64 k,.str nm,.str to,.int .i64 n,.int .i64 ak,.int .i64 an,.str anm,.int .i64 aop,.vslice none 0 aks.length 5 (aW aks),.int .i64 vk,.int .i64 vn,.str vnm,.int .i64 vop,.vslice none 0 vks.length 5 (aW vks),.vslice none 0 args.length 5 (aW args),.vslice none 0 th.length 17 (aX th),.vslice none 0 el.length 17 (aX el)]] h Q=(
 aC (aN [IV.agg [.vslice none 0 ((bN f).length) 1 (List.map IV.str (bN f)),IV.vslice none 0 2 1 sJ,IV.vslice none 0 2 2 pa,IV.vslice none 0 2 9 pf],IV.agg [.int .i64 k,IV.str nm,IV.str to,iI n,iI ak,iI an,IV.str anm,iI aop,IV.vslice none 0 aks.length 5 (aW aks),iI vk,iI vn,IV.str vnm,iI vop,IV.vslice none 0 vks.length (5:Nat) (aW vks),IV.vslice none 0 args.length 5 (aW args),IV.vslice none 0 th.length 17 (aX th),IV.vslice none 0 el.length 17 (aX el)]]) (aM (decide (0< (↑args.length:Int))) (aC (true&&decide ((0:Int)< (↑args.length:Int))) (aK .i64 (aW args) 0 fun n0=>aK .i64 (aW args) 1 fun n1=>bZ (aW args) 2 fun(s2:List UInt8)=>aK .i64 (aW args) 3 fun n3=>bH 5 (aW args) 4 fun(i4:Option Nat)(e5 l6:Nat)(c7:List IV)=> ∃(d:Nat),∃(f_1:Int),∃(ks:List E),(d7N f f_1)/\(l6=ks.length/\c7=aW ks)/\(Es.dp ks<d/\(f_1=0\/f_1=1)/\(E.wf f_1 (E.mk n0 n1 s2 n3 ks) \/n0=0/\ks=[])/\aN pa=true/\aN pf=true)/\aM (decide (1< (↑args.length:Int))) (aC (true&&decide (1< (↑args.length:Int))) (aK .i64 (aW args) 5 fun n8=>aK .i64 (aW args) 6 fun n9=>bZ (aW args) 7 fun(s10:List UInt8)=>aK .i64 (aW args) 8 fun n11=>bH 5 (aW args) 9 fun(i12:Option Nat)(e13 l14:Nat)(c15:List IV)=> ∃(d:Nat),∃(f_2:Int),∃(ks:List E),(c7I f f_2)/\(l14=ks.length/\c15=aW ks)/\(Es.dp ks<d/\(f_2=0\/f_2=1)/\(E.wf f_2 (E.mk n8 n9 s10 n11 ks) \/n8=0/\ks=[])/\aN pa=true/\aN pf=true)/\aM (decide (2< (↑args.length:Int))) (aC (true&&decide (2< (↑args.length:Int))) (aK .i64 (aW args) 10 fun n16=>aK .i64 (aW args) 11 fun(n17:Int)=>bZ (aW args) 12 fun(s18:List UInt8)=>aK .i64 (aW args) 13 fun n19=>bH 5 (aW args) 14 fun(i20:Option Nat)(e21 l22:Nat)(c23:List IV)=> ∃(d:Nat),∃(f_3:Int),∃(ks:List E),(c7J f f_3)/\(l22=ks.length/\c23=aW ks)/\(Es.dp ks<d/\(f_3=0\/f_3=1)/\(E.wf f_3 (E.mk n16 n17 s18 n19 ks) \/n16=0/\ks=[])/\aN pa=true/\aN pf=true)/\False)) (∃(d:Nat),∃(f_3:Int),∃(ks:List E),(c7J f f_3)/\(c7K aks ks)/\(Es.dp ks<d/\(f_3=0\/f_3=(1:Int))/\(E.wf f_3 (E.mk ak an anm aop ks) \/ak=0/\ks=[])/\aN pa=true/\aN pf=true)/\∃(d:Nat),∃(f_4:Int),∃(ks:List E),((bN f).length=(bN f_4).length/\List.map IV.str (bN f)=List.map IV.str (bN f_4)/\sJ=sJ)/\(c7L vks ks)/\(Es.dp ks<d/\(f_4=0\/f_4=1)/\(E.wf f_4 (E.mk vk vn vnm vop ks) \/vk=0/\ks=[])/\aN pa=true/\aN pf=true)/\aM (k==1) (c7H f nm h Q) (c7G f k pa pf nm to h Q)))) (∃(d:Nat),∃(f_2:Int),∃(ks:List E),(c7I f f_2)/\(c7K aks ks)/\(Es.dp ks<d/\(f_2=0\/f_2=1)/\(E.wf f_2 (E.mk ak an anm aop ks) \/ak=0/\ks=[])/\aN pa=true/\aN pf=true)/\∃(d:Nat),∃(f_3:Int),∃(ks:List E),(c7J f f_3)/\(c7L vks ks)/\(Es.dp ks<d/\(f_3=0\/f_3=1)/\(E.wf f_3 (E.mk vk vn vnm vop ks) \/vk=0/\ks=[])/\aN pa=true/\aN pf=true)/\aM (k==1) (c7H f nm h Q) (c7G f k pa pf nm to h Q)))) (∃(d:Nat),∃(f_1:Int),∃(ks:List E),(d7N f f_1)/\(c7K aks ks)/\(Es.dp ks<d/\(f_1=0\/f_1=1)/\(E.wf f_1 (E.mk ak an anm aop ks) \/ak=0/\ks=[])/\aN pa=true/\aN pf=true)/\∃(d:Nat),∃(f_2:Int),∃(ks:List E),(c7I f f_2)/\(c7L vks ks)/\(Es.dp ks<d/\(f_2=0\/f_2=1)/\(E.wf f_2 (E.mk vk vn vnm vop ks) \/vk=0/\ks=[])/\aN pa=true/\aN pf=true)/\aM (k==1) (c7H f nm h Q) (c7G f k pa pf nm to h Q)))):=by kernel_rfl
theorem g6X: ∀xs h Q,f5D xs h Q->aU env 203 xs h Q:=by
 intro xs h Q hk;unfold f5D at hk;split at hk
 ·rename_i nv cv ca pa pf k nm to n ak an anm aop am ac vk vn vnm vop vm vc m c mt ct ml cl;obtain⟨aks,vks,args,th,el,f,⟨rfl,rfl,rfl,rfl,rfl,rfl,rfl,rfl,rfl,rfl⟩,hpp,⟨rfl,rfl,rfl⟩,⟨hf,hn,he⟩,hk⟩:=hk;refine aS (e9W) (g6W f pa pf k nm to n ak an anm aop aks vk vn vnm vop vks args th el h Q) ?_;delta c7G sJ c7H c7I c7J d7N c7K c7L iI;obtain⟨da,dv,dr⟩:=he;have da':Es.dp aks<=5:=da;have dv':Es.dp vks<=5:=dv;obtain⟨hpa,hpf⟩:=hpp.pure;obtain⟨hwa,hwv,hwr⟩:=hn.e;refine aA (by simp only [aN,bL,bG,bW,bP,cI,h1L,hpa,hpf]) ?_;unfold lC at hn;rcases hn with⟨rfl,hnm,rfl,rfl,ha,hv,rfl,rfl,rfl⟩| ⟨rfl,hnm,rfl,rfl,ha,hv,rfl,rfl,rfl⟩| ⟨rfl,rfl,rfl,rfl,ha,hv,rfl⟩| ⟨rfl,rfl,rfl,rfl,ha,hv,rfl,rfl⟩| ⟨rfl,rfl,rfl,rfl,ha,hv,rfl,rfl,rfl⟩| ⟨rfl,hnm,hto,rfl,ha,hv,hargs,rfl,rfl⟩| ⟨rfl,rfl,rfl,⟨hn0,hn1⟩,ha,hv,rfl,rfl,rfl⟩
  ·exact nG ((by first|decide|exact fG (by decide))) ⟨1000,f,aks,⟨rfl,rfl,rfl⟩,⟨rfl,rfl⟩,⟨by omega,hf,lO hwa,hpa,hpf⟩,1000,f,vks,⟨rfl,rfl,rfl⟩,⟨rfl,rfl⟩,⟨by omega,hf,lO hwv,hpa,hpf⟩,bt rfl ⟨bN f,⟨rfl,rfl⟩,xI f,cO hk (by rw [decide_eq_true hnm])⟩⟩
  ·exact nG ((by first|decide|exact fG (by decide))) ⟨1000,f,aks,⟨rfl,rfl,rfl⟩,⟨rfl,rfl⟩,⟨by omega,hf,lO hwa,hpa,hpf⟩,1000,f,vks,⟨rfl,rfl,rfl⟩,⟨rfl,rfl⟩,⟨by omega,hf,lO hwv,hpa,hpf⟩,bf rfl (bf rfl (bt rfl ⟨oW,⟨rfl,rfl⟩,(by first|decide|exact fG (by decide)),cO hk (by rw [decide_eq_true hnm])⟩))⟩
  ·exact nG ((by first|decide|exact fG (by decide))) ⟨1000,f,aks,⟨rfl,rfl,rfl⟩,⟨rfl,rfl⟩,⟨by omega,hf,lO hwa,hpa,hpf⟩,1000,f,vks,⟨rfl,rfl,rfl⟩,⟨rfl,rfl⟩,⟨by omega,hf,lO hwv,hpa,hpf⟩,bf rfl (bf rfl (bf rfl hk))⟩
  ·exact nG ((by first|decide|exact fG (by decide))) ⟨1000,f,aks,⟨rfl,rfl,rfl⟩,⟨rfl,rfl⟩,⟨by omega,hf,lO hwa,hpa,hpf⟩,1000,f,vks,⟨rfl,rfl,rfl⟩,⟨rfl,rfl⟩,⟨by omega,hf,lO hwv,hpa,hpf⟩,bf rfl (bf rfl (bf rfl hk))⟩
  ·exact nG ((by first|decide|exact fG (by decide))) ⟨1000,f,aks,⟨rfl,rfl,rfl⟩,⟨rfl,rfl⟩,⟨by omega,hf,lO hwa,hpa,hpf⟩,1000,f,vks,⟨rfl,rfl,rfl⟩,⟨rfl,rfl⟩,⟨by omega,hf,lO hwv,hpa,hpf⟩,bf rfl (bf rfl (bf rfl hk))⟩
  ·have l0:0<args.length:=by omega
   refine brT (by omega) (aA (by rw [h2G,decide_eq_true_eq];omega) (b0Y (i:=0) l0 rfl fun k2 n2 nm2 op2 q e2=>?_));have w4:=Es.wf_mem hargs (h1B l0);have d4:=dr _ (h1B l0);rw [e2]at w4 d4;have d4':Es.dp q<=5:=d4;refine⟨1000,f,q,⟨rfl,rfl,rfl⟩,⟨rfl,rfl⟩,⟨by omega,hf,.inl w4,hpa,hpf⟩,?_⟩;rcases hto with⟨rfl,hl⟩| ⟨rfl,hl⟩
   ·have l1:1<args.length:=by omega
    refine brT (by omega) (aA (by rw [h2G,decide_eq_true_eq];omega) (b0Y (i:=1) l1 rfl fun k3 n3 nm3 op3 q3 e3=>?_));have w5:=Es.wf_mem hargs (h1B l1);have d5:=dr _ (h1B l1);rw [e3]at w5 d5;have d5':Es.dp q3<=5:=d5;exact⟨1000,f,q3,⟨rfl,rfl,rfl⟩,⟨rfl,rfl⟩,⟨by omega,hf,.inl w5,hpa,hpf⟩,nG (by omega) ⟨1000,f,aks,⟨rfl,rfl,rfl⟩,⟨rfl,rfl⟩,⟨by omega,hf,lO hwa,hpa,hpf⟩,1000,f,vks,⟨rfl,rfl,rfl⟩,⟨rfl,rfl⟩,⟨by omega,hf,lO hwv,hpa,hpf⟩,bf rfl (bt rfl ⟨bN f,⟨rfl,rfl⟩,xI f,brT hnm ⟨hpp,.inl rfl,hk⟩⟩)⟩⟩
   ·exact nG (by omega) ⟨1000,f,aks,⟨rfl,rfl,rfl⟩,⟨rfl,rfl⟩,⟨by omega,hf,lO hwa,hpa,hpf⟩,1000,f,vks,⟨rfl,rfl,rfl⟩,⟨rfl,rfl⟩,⟨by omega,hf,lO hwv,hpa,hpf⟩,bf rfl (bt rfl ⟨bN f,⟨rfl,rfl⟩,xI f,brT hnm ⟨hpp,.inr rfl,hk⟩⟩)⟩
  ·exact nG ((by first|decide|exact fG (by decide))) ⟨1000,f,aks,⟨rfl,rfl,rfl⟩,⟨rfl,rfl⟩,⟨by omega,hf,lO hwa,hpa,hpf⟩,1000,f,vks,⟨rfl,rfl,rfl⟩,⟨rfl,rfl⟩,⟨by omega,hf,lO hwv,hpa,hpf⟩,bf rfl (bf rfl (bf rfl hk))⟩
 ·exact hk.elim
def f5E:=bB 203 f5D f5C
theorem e9X:aT env f5E:=aI g6X (e9W)
def f5F(f:Int)(pa pf:List IV)(l:List S)(b:Bool):Inv':=hJ Nat (fun i=>[(1,.v (.vslice none 0 l.length 17 (aX l))),(2,.v (.bool b)),(3,.l 3 0),(7,.v (.int .i64 (i:Int)))]) (fun _=>[(3,[.vslice none 0 (bN f).length 1 ((bN f).map IV.str),.vslice none 0 2 1 (oW.map IV.str),.vslice none 0 2 2 pa,.vslice none 0 2 9 pf])]) (fun _=>Heap.empty) (fun i=>i<=l.length) (fun i=>l.length-i)
def d7O(d:Nat)(xs:List IV)(h:Heap)(K:KT):Prop:=match xs with
 | [.agg [.vslice none 0 nv 1 cv,.vslice none 0 2 1 ca,.vslice none 0 2 2 pa,.vslice none 0 2 9 pf],.vslice none 0 m 17 c,.bool b]=> ∃(l:List S)(f:Int),lD pa pf/\(m=l.length/\c=aX l)/\(nv=(bN f).length/\cv=(bN f).map IV.str/\ca=oW.map IV.str)/\((f=0\/f=1)/\Ss.cnt l<d/\Ss.cnt l<=1000/\Ss.wf f l/\Ss.ed 5 l)/\K (.bool true) h
 |_=>False
def a0V:=[IV.str [97],IV.str [98]]
def uI(f:Int)(pa pf:List IV):=[IV.vslice none 0 ((bN f).length) 1 (List.map IV.str (bN f)),IV.vslice none 0 2 1 a0V,IV.vslice none 0 2 2 pa,IV.vslice none 0 2 9 pf]
abbrev xQ(f f_1:Int):=(bN f).length=(bN f_1).length/\List.map IV.str (bN f)=List.map IV.str (bN f_1)/\a0V=a0V
abbrev c7M(f f_2:Int):=(bN f).length=(bN f_2).length/\List.map IV.str (bN f)=List.map IV.str (bN f_2)/\a0V=a0V
def c7N(l:List S):=TV.v (.vslice none 0 l.length 17 (aX l))
def xR:=TV.l 3 0
abbrev d7P(dd:Nat)(l_1:List M10.S)(f_1:Int):=(f_1=0\/f_1=1)/\Ss.cnt l_1<dd/\Ss.cnt l_1<=1000/\Ss.wf f_1 l_1/\Ss.ed (5:Nat) l_1
abbrev d7Q(dd:Nat)(l_2:List M10.S)(f_2:Int):=(f_2=0\/f_2=1)/\Ss.cnt l_2<dd/\Ss.cnt l_2<=1000/\Ss.wf f_2 l_2/\Ss.ed (5:Nat) l_2
def c1M(b:Bool)(f:Int)(l:List S)(pa pf:List IV)(x:Nat):Prop:= ∃(yy:Nat),some (c7N l)=some (c7N l)/\some (TV.v (.bool b))=some (TV.v (.bool b))/\some xR=some xR/\tI (wW ((↑x:Int)+1))=tI (↑yy:Int)/\some (uI f pa pf)=some (uI f pa pf)/\Heap.mk PT.nil 0=Heap.mk PT.nil 0/\Nat.le yy l.length/\l.length-yy<l.length-x
theorem g6Y(dd:Nat)(f:Int)(pa pf:List IV)(l:List S)(b:Bool)(h:Heap)(Q:KT):dF (aV (bB 145 (d7O dd) f5E)) env 145 dV (tK 3 (f5F f pa pf l b)) bT [.agg [.vslice none 0 (bN f).length 1 ((bN f).map IV.str),.vslice none 0 2 1 (oW.map IV.str),.vslice none 0 2 2 pa,.vslice none 0 2 9 pf],.vslice none 0 l.length 17 (aX l),.bool b] h Q=(
 aC (aN [IV.agg (uI f pa pf),IV.vslice none 0 l.length 17 (aX l),IV.bool b]) ((∃(x:Nat),some (c7N l)=some (c7N l)/\some (TV.v (.bool b))=some (TV.v (.bool b))/\some xR=some xR/\tI 0=tI (↑x:Int)/\some (uI f pa pf)=some (uI f pa pf)/\Heap.mk PT.nil 0=Heap.mk PT.nil 0/\Nat.le x l.length/\True)/\∀(x:Nat)(b_1:FF),x<=l.length->aM (decide ((↑x:Int)< (↑l.length:Int))) (aC (decide (0<=(↑x:Int)) &&decide ((↑x:Int)< (↑l.length:Int))) (aK .i64 (aX l) ((↑x:Int).toNat*17) fun n0=>bZ (aX l) ((↑x:Int).toNat*17+1) fun(s1:List UInt8)=>bZ (aX l) ((↑x:Int).toNat*17+1+1) fun(s2:List UInt8)=>aK .i64 (aX l) ((↑x:Int).toNat*17+1+1+1) fun n3=>aK .i64 (aX l) ((↑x:Int).toNat*17+1+1+1+1) fun n4=>aK .i64 (aX l) ((↑x:Int).toNat*(17:Nat)+1+1+1+1+1) fun n5=>bZ (aX l) ((↑x:Int).toNat*17+1+1+1+1+1+1) fun(s6:List UInt8)=>aK .i64 (aX l) ((↑x:Int).toNat*17+(1:Nat)+1+1+1+1+1+1) fun n7=>bH 5 (aX l) ((↑x:Int).toNat*17+1+1+1+1+1+1+1+1) fun(i8:Option Nat)(e9 l10:Nat)(c11:List IV)=>aK .i64 (aX l) ((↑x:Int).toNat*17+1+1+1+1+1+1+1+1+1) fun n12=>aK .i64 (aX l) ((↑x:Int).toNat*17+1+1+1+1+(1:Nat)+1+1+1+1+1) fun n13=>bZ (aX l) ((↑x:Int).toNat*17+1+1+1+1+1+1+1+1+1+1+1) fun(s14:List UInt8)=>aK .i64 (aX l) ((↑x:Int).toNat*17+1+1+1+1+1+1+1+1+1+1+1+1) fun n15=>bH 5 (aX l) ((↑x:Int).toNat*17+1+1+(1:Nat)+1+1+1+1+1+1+1+1+1+1) fun(i16:Option Nat)(e17 l18:Nat)(c19:List IV)=>bH 5 (aX l) ((↑x:Int).toNat*17+1+1+1+1+(1:Nat)+1+1+1+1+1+1+1+1+1) fun(i20:Option Nat)(e21 l22:Nat)(c23:List IV)=>bH 17 (aX l) ((↑x:Int).toNat*17+1+1+1+1+1+1+(1:Nat)+1+1+1+1+1+1+1+1) fun(i24:Option Nat)(e25 l26:Nat)(c27:List IV)=>bH 17 (aX l) ((↑x:Int).toNat*17+1+1+1+1+1+1+(1:Nat)+1+1+1+1+1+1+1+1+1) fun(i28:Option Nat)(e29 l30:Nat)(c31:List IV)=>aM b (aM (n0==6) (lD pa pf/\(s2=[102] \/s2=[103])/\aC (decide (0<=if s2=[(102:UInt8)]then(0:Int)else(1:Int)) &&decide ((if s2=[102]then(0:Int)else(1:Int))<2)) (bH 1 pf (Int.toNat (if s2=[102]then(0:Int)else(1:Int))*9+1) fun(i32:Option Nat)(e33 l34:Nat)(c35:List IV)=>aM ((↑l22:Int) !=(↑l34:Int)) (Q (.bool false) h) (∃(l_1:List M10.S),∃(f_1:Int),lD pa pf/\(l26=l_1.length/\c27=aX l_1)/\(xQ f f_1)/\(d7P dd l_1 f_1)/\∃(l_2:List M10.S),∃(f_2:Int),lD pa pf/\(l30=l_2.length/\c31=aX l_2)/\(c7M f f_2)/\(d7Q dd l_2 f_2)/\c1M b f l pa pf x))) (∃(l_1:List M10.S),∃(f_1:Int),lD pa pf/\(l26=l_1.length/\c27=aX l_1)/\(xQ f f_1)/\(d7P dd l_1 f_1)/\∃(l_2:List M10.S),∃(f_2:Int),lD pa pf/\(l30=l_2.length/\c31=aX l_2)/\(c7M f f_2)/\(d7Q dd l_2 f_2)/\c1M b f l pa pf x)) (∃(aks vks args:List E),∃(th:List M10.S),∃(el:List M10.S),∃(f_1:Int),(l10=aks.length/\c11=aW aks/\l18=vks.length/\c19=aW vks/\l22=args.length/\c23=aW args/\l26=th.length/\c27=aX th/\l30=el.length/\c31=aX el)/\lD pa pf/\(xQ f f_1)/\((f_1=0\/f_1=1)/\lC f_1 n0 s1 s2 n3 (E.mk n4 n5 s6 n7 aks) (E.mk n12 n13 s14 n15 vks) args th el/\E.dp (E.mk n4 n5 s6 n7 aks)<=5/\E.dp (E.mk n12 n13 s14 n15 vks)<=5/\∀(x:E),x∈args->E.dp x<=5)/\∃(l_1:List M10.S),∃(f_2:Int),lD pa pf/\(l26=l_1.length/\c27=aX l_1)/\(c7M f f_2)/\((f_2=0\/f_2=1)/\Ss.cnt l_1<dd/\Ss.cnt l_1<=1000/\Ss.wf f_2 l_1/\Ss.ed (5:Nat) l_1)/\∃(l_2:List M10.S),∃(f_3:Int),lD pa pf/\(l30=l_2.length/\c31=aX l_2)/\((bN f).length=(bN f_3).length/\List.map IV.str (bN f)=List.map IV.str (bN f_3)/\a0V=a0V)/\((f_3=0\/f_3=1)/\Ss.cnt l_2<dd/\Ss.cnt l_2<=1000/\Ss.wf f_3 l_2/\Ss.ed (5:Nat) l_2)/\c1M b f l pa pf x))) (Q (.bool true) h))):=by kernel_rfl
theorem g6Z: ∀d xs h Q,d7O d xs h Q->aU env 145 xs h Q:=by
 intro d
 induction d with
 |zero=>
  intro xs h Q hk;unfold d7O at hk;split at hk
  ·rename_i nv cv ca pa pf m c b;obtain⟨l,f,hpp,⟨rfl,rfl⟩,⟨rfl,rfl,rfl⟩,⟨hf,hd,hb,hw,he⟩,hk⟩:=hk;omega
  ·exact hk.elim
 |succ dd ih=>
  intro xs h Q hk;unfold d7O at hk;split at hk
  ·rename_i nv cv ca pa pf m c b;obtain⟨l,f,hpp,⟨rfl,rfl⟩,⟨rfl,rfl,rfl⟩,⟨hf,hd,hb,hw,he⟩,hk⟩:=hk;refine aS (aI ih (e9X)) (g6Y dd f pa pf l b h Q) ?_;delta c1M uI a0V xQ c7M c7N xR d7P d7Q tI wW;have lc:=Ss.len_cnt l;obtain⟨hpa,hpf⟩:=hpp.pure;refine aA (by simp only [aN,bL,bG,bW,bP,cI,h1L,hpa,hpf]) ⟨⟨0,rfl,rfl,rfl,rfl,rfl,rfl,h1N _,trivial⟩,?_⟩;rintro i _ hi;refine dW (fun c=>?_) (fun c=>hk);have hlt:i<l.length:=by omega
   refine aP (by omega) (e5U hlt (by rw [h0Z]) fun k nm to n ak an anm aop aks vk vn vnm vop vks args th el e=>?_);have h1:=Ss.cnt_mem (h1B hlt);have e1:l[i].cnt=1+Ss.cnt th+Ss.cnt el:=by rw [e];rfl
   have hwf:=Ss.wf_mem hw (h1B hlt);have hed:=Ss.ed_mem he (h1B hlt);rw [e]at hwf hed;obtain⟨hn,hw1,hw2⟩:=hwf;obtain⟨hab,hd1,hd2⟩:=hed;refine bx (aD (fun c6=>?_) (fun c6=>⟨th,f,hpp,⟨rfl,rfl⟩,⟨rfl,rfl,rfl⟩,⟨hf,by omega,by omega,hw1,hd1⟩,el,f,hpp,⟨rfl,rfl⟩,⟨rfl,rfl,rfl⟩,⟨hf,by omega,by omega,hw2,hd2⟩,i+1,rfl,rfl,rfl,(by(try dsimp only);rw [h0X _ (by omega)];rfl),rfl,rfl,hlt,by omega⟩)) ⟨aks,vks,args,th,el,f,⟨rfl,rfl,rfl,rfl,rfl,rfl,rfl,rfl,rfl,rfl⟩,hpp,⟨rfl,rfl,rfl⟩,⟨hf,hn,hab⟩,th,f,hpp,⟨rfl,rfl⟩,⟨rfl,rfl,rfl⟩,⟨hf,by omega,by omega,hw1,hd1⟩,el,f,hpp,⟨rfl,rfl⟩,⟨rfl,rfl,rfl⟩,⟨hf,by omega,by omega,hw2,hd2⟩,i+1,rfl,rfl,rfl,(by(try dsimp only);rw [h0X _ (by omega)];rfl),rfl,rfl,hlt,by omega⟩;rw [beq_iff_eq]at c6;have hto:(to=[102]/\args.length=2) \/ (to=[103]/\args.length=1):=by
    unfold lC at hn;rcases hn with h|h|h|h|h|h|h
    ·omega
    ·omega
    ·omega
    ·omega
    ·omega
    ·exact h.2.2.1
    ·omega
   rcases hto with⟨rfl,hl⟩| ⟨rfl,hl⟩
   ·refine⟨hpp,.inl rfl,aA rfl ?_⟩;have hx:pf[Int.toNat (if([102]:List UInt8)=[102]then 0 else 1)*9+1]?=some (.vslice none 1 2 1 [.str [120],.str [121]]):=by
     obtain⟨la,lb,b0,v0,b1,v1,rfl,rfl⟩:=hpp;rfl
    exact dY hx (bf (by rw [hl];rfl) ⟨th,f,hpp,⟨rfl,rfl⟩,⟨rfl,rfl,rfl⟩,⟨hf,by omega,by omega,hw1,hd1⟩,el,f,hpp,⟨rfl,rfl⟩,⟨rfl,rfl,rfl⟩,⟨hf,by omega,by omega,hw2,hd2⟩,i+1,rfl,rfl,rfl,(by(try dsimp only);rw [h0X _ (by omega)];rfl),rfl,rfl,hlt,by omega⟩)
   ·refine⟨hpp,.inr rfl,aA rfl ?_⟩;have hx:pf[Int.toNat (if([103]:List UInt8)=[102]then 0 else 1)*9+1]?=some (.vslice none 1 1 1 [.str [110]]):=by
     obtain⟨la,lb,b0,v0,b1,v1,rfl,rfl⟩:=hpp
     cases v0
     rfl
    exact dY hx (bf (by rw [hl];rfl) ⟨th,f,hpp,⟨rfl,rfl⟩,⟨rfl,rfl,rfl⟩,⟨hf,by omega,by omega,hw1,hd1⟩,el,f,hpp,⟨rfl,rfl⟩,⟨rfl,rfl,rfl⟩,⟨hf,by omega,by omega,hw2,hd2⟩,i+1,rfl,rfl,rfl,(by(try dsimp only);rw [h0X _ (by omega)];rfl),rfl,rfl,hlt,by omega⟩)
  ·exact hk.elim
def f5G:=bB 145 (fun xs h K=> ∃d,d7O d xs h K) f5E
theorem e9Y:aT env f5G:=aI (fun xs h Q hk=>hk.elim fun d hk=>g6Z d xs h Q hk) (e9X)
def d7R(xs:List IV)(h:Heap)(K:KT):Prop:=match xs with
 | [.agg [.vslice none 0 2 2 ac,.vslice none 0 2 9 fc]]=>qG ac fc/\K (.int .i64 0) h
 |_=>False
def a4L(b0 b1:List S)(uk un uop wk wn wop:Int)(unm wnm:List UInt8)(uks wks:List E):=[IV.str [102],IV.vslice none 1 2 1 [IV.str [120],IV.str [121]],IV.vslice none 1 2 1 [IV.str [105],IV.str [106]],IV.vslice none 0 b0.length 17 (aX b0),iI uk,iI un,IV.str unm,iI uop,IV.vslice none 0 uks.length 5 (aW uks),IV.str [103],IV.vslice none 1 1 1 [IV.str [110]],IV.vslice none 1 1
 1 [IV.str [105]],IV.vslice none 0 b1.length 17 (aX b1),iI wk,iI wn,IV.str wnm,iI wop,IV.vslice none 0 wks.length 5 (aW wks)]
def a4M(la lb:Int):=[IV.str [97],iI la,IV.str [98],iI lb]
abbrev e6N(f:Int):=(4:Nat)=(bN f).length/\[IV.str [120],IV.str [121],IV.str [105],IV.str [106]]=List.map IV.str (bN f)/\[IV.str [97],IV.str [98]]=[IV.str [97],IV.str [98]]
abbrev e6O(f:Int):=(2:Nat)=(bN f).length/\[IV.str [110],IV.str [105]]=List.map IV.str (bN f)/\[IV.str [97],IV.str [98]]=[IV.str [97],IV.str [98]]
abbrev d7S(d:Nat)(l:List M10.S)(f:Int):=(f=0\/f=1)/\Ss.cnt l<d/\Ss.cnt l<=1000/\Ss.wf f l/\Ss.ed (5:Nat) l
theorem g2E(la lb:Int)(b0:List S)(uk un:Int)(unm:List UInt8)(uop:Int)(uks:List E)(b1:List S)(wk wn:Int)(wnm:List UInt8)(wop:Int)(wks:List E)(h:Heap)(Q:KT):dF (aV f5G) env 76 (fun k=>3) bT bT [.agg [.vslice none 0 2 2 [.str [97],.int .i64 la,.str [98],.int .i64 lb],.vslice none 0 2 9 [.str [102],.vslice none 1 2 1 [.str [120],.str [121]],.vslice none 1 2 1 [.str [105],.str [106]],.vslice none 0 b0.length 17 (aX b0),.int .i64 uk,.int .i64 un,.str unm,.int .i64 uop,.vslice none 0 uks.length 5 (aW uks),.str [103],.vslice none 1 1 1 [.str [110]],.vslice none 1 1 1 [.str [105]],.vslice none 0 b1.length 17 (aX b1),.int .i64 wk,.int .i64 wn,.str wnm,.int .i64 wop,.vslice none 0 wks.length 5 (aW wks)]]] h Q=(
 aC (aN [IV.agg [.vslice none 0 2 2 (a4M la lb),IV.vslice none 0 2 9 (a4L b0 b1 uk un uop wk wn wop unm wnm uks wks)]]) (qG (a4M la lb) (a4L b0 b1 uk un uop wk wn wop unm wnm uks wks)/\qG (a4M la lb) (a4L b0 b1 uk un uop wk wn wop unm wnm uks wks)/\lD (a4M la lb) (a4L b0 b1 uk un uop wk wn wop unm wnm uks wks)/\∃(d:Nat),∃(l:List M10.S),∃(f:Int),lD (a4M la lb) (a4L b0 b1 uk un uop wk wn wop unm wnm uks wks)/\(b0.length=l.length/\aX b0=aX l)/\(e6N f)/\(d7S d l f)/\∃(d:Nat),∃(f:Int),∃(ks:List E),(e6N f)/\(uks.length=ks.length/\aW uks=aW ks)/\(Es.dp ks<d/\(f=0\/f=1)/\(E.wf f (E.mk uk un unm uop ks) \/uk=0/\ks=[])/\aN (a4M la lb)=true/\aN (a4L b0 b1 uk un uop wk wn wop unm wnm uks wks)=true)/\∃(d:Nat),∃(l:List M10.S),∃(f:Int),lD (a4M la lb) (a4L b0 b1 uk un uop wk wn wop unm wnm uks wks)/\(b1.length=l.length/\aX b1=aX l)/\(e6O f)/\(d7S d l f)/\∃(d:Nat),∃(f:Int),∃(ks:List E),(e6O f)/\(wks.length=ks.length/\aW wks=aW ks)/\(Es.dp ks<d/\(f=0\/f=1)/\(E.wf f (E.mk wk wn wnm wop ks) \/wk=0/\ks=[])/\aN (a4M la lb)=true/\aN (a4L b0 b1 uk un uop wk wn wop unm wnm uks wks)=true)/\∃(d:Nat),∃(l:List M10.S),∃(f:Int),lD (a4M la lb) (a4L b0 b1 uk un uop wk wn wop unm wnm uks wks)/\(b0.length=l.length/\aX b0=aX l)/\(e6N f)/\(d7S d l f)/\∃(d:Nat),∃(l:List M10.S),∃(f:Int),lD (a4M la lb) (a4L b0 b1 uk un uop wk wn wop unm wnm uks wks)/\(b1.length=l.length/\aX b1=aX l)/\(e6O f)/\(d7S d l f)/\Q (.int .i64 (0:Int)) h)):=by kernel_rfl
theorem g2F: ∀xs h Q,d7R xs h Q->aU env 76 xs h Q:=by
 intro xs h Q hk;unfold d7R at hk;split at hk
 ·rename_i ac fc;have hx:=hk.1;obtain⟨⟨la,lb,b0,⟨uk,un,unm,uop,uks⟩,b1,⟨wk,wn,wnm,wop,wks⟩,hp,rfl,rfl⟩,hk⟩:=hk;refine aS (e9Y) (g2E la lb b0 uk un unm uop uks b1 wk wn wnm wop wks h Q) ?_;delta a4L a4M e6N e6O d7S iI;obtain⟨hpa,hpf⟩:=hx.q.pure;have hq:=hx.q;obtain⟨_,g0,g1⟩:=hp;have x0:=g0.cnt;have x3:Es.dp uks<=5:=g0.vd;have y0:=g1.cnt;have y3:Es.dp wks<=5:=g1.vd;have w1:=EW.of g0.vw;refine aA (by simp only [aN,bL,bG,bW,bP,cI,h1L]) ⟨hx,hx,hq,1000,b0,0,hq,⟨rfl,rfl⟩,⟨rfl,rfl,rfl⟩,⟨.inl rfl,by omega,by omega,g0.wf,g0.ed⟩,1000,0,uks,⟨rfl,rfl,rfl⟩,⟨rfl,rfl⟩,⟨by omega,.inl rfl,.inl g0.vw,hpa,hpf⟩,
   1000,b1,1,hq,⟨rfl,rfl⟩,⟨rfl,rfl,rfl⟩,⟨.inr rfl,by omega,by omega,g1.wf,g1.ed⟩,1000,1,wks,⟨rfl,rfl,rfl⟩,⟨rfl,rfl⟩,⟨by omega,.inr rfl,.inl g1.vw,hpa,hpf⟩,
   1000,b0,0,hq,⟨rfl,rfl⟩,⟨rfl,rfl,rfl⟩,⟨.inl rfl,by omega,by omega,g0.wf,g0.ed⟩,1000,b1,1,hq,⟨rfl,rfl⟩,⟨rfl,rfl,rfl⟩,⟨.inr rfl,by omega,by omega,g1.wf,g1.ed⟩,hk⟩
 ·exact hk.elim
def d7T:=bB 76 d7R f5G
theorem d7U:aT env d7T:=aI g2F (e9Y)
def g2G(op im:Int)(ks:List Int)(op2 im2:Int)(ks2:List Int):Inv':=hJ Nat (fun i=>[(2,.l 2 0),(3,.l 3 0),(5,.v (.int .i64 i))]) (fun _=>[(2,[.int .i64 op,.int .i64 im,.vslice none 0 ks.length 1 (ks.map (IV.int .i64))]),(3,[.int .i64 op2,.int .i64 im2,.vslice none 0 ks2.length 1 (ks2.map (IV.int .i64))])]) (fun _=>Heap.empty)
 (fun i=>(ks.length=ks2.length/\i<=ks.length)/\∀j,j<i->ks[j]?=ks2[j]?) (fun i=>ks.length-i)
def b1N(xs:List IV)(h:Heap)(K:KT):Prop:=match xs with
 | [.agg [.int .i64 op,.int .i64 im,.vslice none e1 n1 1 c1],.agg [.int .i64 op2,.int .i64 im2,.vslice none e2 n2 1 c2]]=> ∃ks ks2:List Int,(n1=ks.length/\c1=ks.map (IV.int .i64))/\(n2=ks2.length/\c2=ks2.map (IV.int .i64))/\ks.length<=1000000000/\K (.bool (decide ((⟨op,im,ks⟩:Nd)=⟨op2,im2,ks2⟩))) h
 |_=>False
def d1V(op im:Int)(ks:List Int):=[iI op,iI im,IV.vslice none 0 ks.length 1 (List.map (IV.int .i64) ks)]
def d1W(op2 im2:Int)(ks2:List Int):=[iI op2,iI im2,IV.vslice none 0 ks2.length 1 (List.map (IV.int .i64) ks2)]
def d7V:=TV.l 2 0
def d7W:=TV.l 3 0
abbrev f5H(ks ks2:List Int)(x:Nat):=(ks.length=ks2.length/\x<=ks.length)/\∀(j:Nat),j<x->ks[j]?=ks2[j]?
theorem e6P(op im op2 im2:Int)(ks ks2:List Int)(e1 e2:Nat)(h:Heap)(Q:KT):dF (aV d7T) env 50 dV (tK 5 (g2G op im ks op2 im2 ks2)) bT [.agg [.int .i64 op,.int .i64 im,.vslice none e1 ks.length 1 (ks.map (IV.int .i64))],.agg [.int .i64 op2,.int .i64 im2,.vslice none e2 ks2.length 1 (ks2.map (IV.int .i64))]] h Q=(
 aC (aN [IV.agg (d1V op im ks),IV.agg (d1W op2 im2 ks2)]) (aM (op !=op2) (Q (.bool false) h) (aM (im !=im2) (Q (.bool false) h) (aM ((↑ks.length:Int) !=(↑ks2.length:Int)) (Q (.bool false) h) ((∃(x:Nat),some d7V=some d7V/\some d7W=some d7W/\some (TV.v (iI 0))=tI (↑x:Int)/\some (d1V op im ks)=some (d1V op im ks)/\some (d1W op2 im2 ks2)=some (d1W op2 im2 ks2)/\Heap.mk PT.nil 0=Heap.mk PT.nil 0/\(f5H ks ks2 x)/\True)/\∀(x:Nat)(b:FF),(f5H ks ks2 x)->aM (decide ((↑x:Int)< (↑ks.length:Int))) (aC (decide (0<=(↑x:Int)) &&decide ((↑x:Int)< (↑ks.length:Int))) (aK .i64 (List.map (IV.int .i64) ks) ((↑x:Int).toNat*1) fun n0=>aC (decide (0<=(↑x:Int)) &&decide ((↑x:Int)< (↑ks2.length:Int))) (aK .i64 (List.map (IV.int .i64) ks2) ((↑x:Int).toNat*1) fun n1=>aM (n0 !=n1) (Q (.bool false) h) (∃(x_1:Nat),some d7V=some d7V/\some d7W=some d7W/\tI (wW ((↑x:Int)+1))=tI (↑x_1:Int)/\some (d1V op im ks)=some (d1V op im ks)/\some (d1W op2 im2 ks2)=some (d1W op2 im2 ks2)/\Heap.mk PT.nil 0=Heap.mk PT.nil 0/\((ks.length=ks2.length/\x_1<=ks.length)/\∀(j:Nat),j<x_1->ks[j]?=ks2[j]?)/\ks.length-x_1<ks.length-x)))) (Q (.bool true) h)))))):=by kernel_rfl
theorem e6Q: ∀xs h Q,b1N xs h Q->aU env 50 xs h Q:=by
 intro xs h Q hk;unfold b1N at hk;split at hk
 ·rename_i op im e1 n1 c1 op2 im2 e2 n2 c2;obtain⟨ks,ks2,⟨rfl,rfl⟩,⟨rfl,rfl⟩,hb,hk⟩:=hk;refine aS (d7U) (e6P op im op2 im2 ks ks2 e1 e2 h Q) ?_;delta d1V d1W d7V d7W f5H tI wW iI;have tn: ∀x:Nat,(x:Int).toNat=x:=h0Z
  have fin: ∀b:Bool,(b=true ↔ (op=op2/\im=im2/\ks=ks2))->Q (.bool b) h:=fun b e=>by
   have:b=decide ((⟨op,im,ks⟩:Nd)=⟨op2,im2,ks2⟩):=by
    rw [h5Z,e,decide_eq_true_eq,Nd.mk.injEq]
   rw [this];exact hk
  have no: ¬ (op=op2/\im=im2/\ks=ks2)->Q (.bool false) h:=fun e=>fin false ⟨fun q=>(by cases q),fun q=>absurd q e⟩
  refine aA (by simp only [aN,bL,cH,h1L]) (aD (fun c=>no (fun e=>bne_iff_ne.1 c e.1)) (fun c1=>aD (fun c=>no (fun e=>bne_iff_ne.1 c e.2.1)) (fun c2=>aD (fun c=>no (fun e=>bne_iff_ne.1 c (by rw [e.2.2]))) (fun c3=>?_))));rw [bne_eq_false_iff_eq]at c1 c2 c3;subst c1 c2;have hl:ks.length=ks2.length:=by omega
  refine⟨⟨0,rfl,rfl,rfl,rfl,rfl,rfl,⟨⟨hl,h1N _⟩,fun j hj=>by omega⟩,trivial⟩,?_⟩;rintro i _ ⟨⟨hl2,hi⟩,ha⟩
  try dsimp only at hi ha⊢
  refine aD (fun c=>?_) (fun c=>?_)
  ·rw [decide_eq_true_eq]at c;have hlt:i<ks.length:=by omega
   have hlt2:i<ks2.length:=by omega
   simp only [tn];rw [h1W];refine aA (by simp;omega) (gH hlt (aA (by simp;omega) (gH hlt2 (aD (fun c1=>no (fun e=>?_)) (fun c1=>⟨i+1,.intro,.intro,?_,.intro,.intro,.intro,⟨⟨hl,hlt⟩,fun j hj=>?_⟩,by(try dsimp only);omega⟩)))))
   ·have e:=e.2.2;subst e;simp at c1
   ·rw [h0X _ (by omega)];rfl
   ·rcases h2D j i with q|q
    ·exact ha j q
    ·obtain rfl:j=i:=by omega
     rw [bne_eq_false_iff_eq]at c1;rw [h0U hlt,h0U hlt2,c1]
  ·rw [decide_eq_false_iff_not]at c;refine fin true ⟨fun _=>⟨rfl,rfl,h3T fun j=>?_⟩,fun _=>rfl⟩;rcases h2D j i with q|q
   ·exact ha j q
   ·rw [h2E (by omega),h2E (by omega)]
 ·exact hk.elim
def b1O:=bB 50 b1N d7T
theorem b6S:aT env b1O:=aI e6Q (d7U)
def g2H(id:Nat)(op im:Int)(kn:Nat)(kc:List IV)(p:PSt)(h:Heap):Inv':= .or
 (hJ Nat (fun i=>[(0,.v (.ptr id 0)),(9,.l 9 0),(10,.v (.int .i64 (i:Int)))]) (fun _=>[(9,[.int .i64 op,.int .i64 im,.vslice none 1 0 1 []])]) (fun _=>h) (fun i=>kn=0/\PuI p op im i) (fun i=>p.ns.length-i))
 (hJ Nat (fun i=>[(0,.v (.ptr id 0)),(9,.l 9 0),(10,.v (.int .i64 (i:Int)))]) (fun _=>[(9,[.int .i64 op,.int .i64 im,.vslice (some h.next) kn kn 1 kc])]) (fun _=>h.push (.tip kn)) (fun i=>PuI p op im i) (fun i=>p.ns.length-i))
def f5I(xs:List IV)(h:Heap)(K:KT):Prop:=match xs with
 | [.ptr id 0,.int .i64 op,.int .i64 im,.vslice none 0 kn 1 kc]=> ∃p:PSt,bI h id p op im kn kc/\∀(v:Int)(h2:Heap),aQ h id p op im v h2->K (.int .i64 v) h2
 |_=>False
def d1X(op im:Int):=[iI op,iI im,IV.vslice none 0 0 1 []]
def d1Y(op im:Int)(kn:Nat)(kc:List IV):=[iI op,iI im,IV.vslice none 0 kn 1 kc]
def d7X(op im:Int)(kn:Nat)(kc:List IV)(h:Heap):=[IV.vslice (some (h.next+1)) 3 1 3 (d1Y op im kn kc)]
def mD(kn:Nat)(h:Heap):=h.push (IObj.tip kn)
def b1P(kn:Nat)(h:Heap):=(mD kn h).push (IObj.tip (3:Nat))
def d7Y(op im:Int)(h:Heap):=[IV.vslice (some (h.next)) 3 1 3 (d1X op im)]
def b1Q(op im:Int):=[iI op,iI im,IV.vslice none 1 0 1 []]
def sK:=iI (-1)
def b1R(h:Heap):=h.push (IObj.tip (3:Nat))
def sL:=TV.l 9 0
def c1R(op im:Int)(kn:Nat)(kc:List IV)(h:Heap):=[iI op,iI im,IV.vslice (some (h.next)) kn kn 1 kc]
def sM(id:Nat):=TV.v (.ptr id 0)
def e6R(id i8 e9 l10:Nat)(op im:Int)(h:Heap)(c11 r13:List IV):=(h.set i8 (IObj.tip (e9+3))).set id (IObj.cells (List.take 2 r13++ [IV.vslice (some i8) (e9+3) (l10+1) 3 (c11++(d1X op im))]++List.drop 3 r13))
def e6S(id i41 e42 l43:Nat)(op im:Int)(h:Heap)(c44 r46:List IV):=(h.set i41 (IObj.tip (e42+3))).set id (IObj.cells (List.take 2 r46++ [IV.vslice (some i41) (e42+3) (l43+1) 3 (c44++(d1X op im))]++List.drop 3 r46))
def e6T(id i112 e113 l114:Nat)(op im:Int)(h:Heap)(c115 r117:List IV):=(h.set i112 (IObj.tip (e113+3))).set id (IObj.cells (List.take 2 r117++ [IV.vslice (some i112) (e113+3) (l114+1) 3 (c115++(d1X op im))]++List.drop 3 r117))
def e6U(id i145 e146 l147:Nat)(op im:Int)(h:Heap)(c148 r150:List IV):=(h.set i145 (IObj.tip (e146+3))).set id (IObj.cells (List.take 2 r150++ [IV.vslice (some i145) (e146+3) (l147+1) 3 (c148++(d1X op im))]++List.drop 3 r150))
def e6V(id kn i60 e61 l62:Nat)(op im:Int)(kc c63 r65:List IV)(h:Heap):=((mD kn h).set i60 (IObj.tip (e61+3))).set id (IObj.cells (List.take 2 r65++ [IV.vslice (some i60) (e61+3) (l62+1) 3 (c63++(d1Y op im kn kc))]++List.drop 3 r65))
def e6W(id kn i93 e94 l95:Nat)(op im:Int)(kc c96 r98:List IV)(h:Heap):=((mD kn h).set i93 (IObj.tip (e94+3))).set id (IObj.cells (List.take 2 r98++ [IV.vslice (some i93) (e94+3) (l95+1) 3 (c96++(d1Y op im kn kc))]++List.drop 3 r98))
def d7Z(x:Nat):=TV.v (.int .i64 (wW ((↑x:Int)+1)))
def e6X(id kn i164 e165 l166:Nat)(op im:Int)(kc c167 r169:List IV)(h:Heap):=((mD kn h).set i164 (IObj.tip (e165+3))).set id (IObj.cells (List.take 2 r169++ [IV.vslice (some i164) (e165+3) (l166+1) 3 (c167++(d1Y op im kn kc))]++List.drop 3 r169))
def e6Y(id kn i197 e198 l199:Nat)(op im:Int)(kc c200 r202:List IV)(h:Heap):=((mD kn h).set i197 (IObj.tip (e198+3))).set id (IObj.cells (List.take 2 r202++ [IV.vslice (some i197) (e198+3) (l199+1) 3 (c200++(d1Y op im kn kc))]++List.drop 3 r202))
def b1S(x:Nat):=iI (↑x:Int)
def d8A(x:Nat):=(↑x:Int).toNat*3+1+1
def b1T:=IV.int .i64
def d8B(x:Nat):=(↑x:Int).toNat*3+1
def d8C:=TV.v (.int .i64 0)
def c7P(id:Nat)(op im:Int)(h:Heap)(r2:List IV):=(b1R h).set id (IObj.cells (List.take 2 r2++(d7Y op im h)++List.drop 3 r2))
def c7Q(id:Nat)(op im:Int)(h:Heap)(r35:List IV):=(b1R h).set id (IObj.cells (List.take 2 r35++(d7Y op im h)++List.drop 3 r35))
def c7R(id:Nat)(op im:Int)(h:Heap)(r106:List IV):=(b1R h).set id (IObj.cells (List.take 2 r106++(d7Y op im h)++List.drop 3 r106))
def c7S(id:Nat)(op im:Int)(h:Heap)(r139:List IV):=(b1R h).set id (IObj.cells (List.take 2 r139++(d7Y op im h)++List.drop 3 r139))
def b6T(yy:Nat):=TV.v (.int .i64 (↑yy:Int))
def b6U(x:Nat):=(↑x:Int).toNat*3
def c7T(id kn:Nat)(op im:Int)(kc r54:List IV)(h:Heap):=(b1P kn h).set id (IObj.cells (List.take 2 r54++(d7X op im kn kc h)++List.drop 3 r54))
def c7U(id kn:Nat)(op im:Int)(kc r87:List IV)(h:Heap):=(b1P kn h).set id (IObj.cells (List.take 2 r87++(d7X op im kn kc h)++List.drop 3 r87))
def c7V(id kn:Nat)(op im:Int)(kc r158:List IV)(h:Heap):=(b1P kn h).set id (IObj.cells (List.take 2 r158++(d7X op im kn kc h)++List.drop 3 r158))
def c7W(id kn:Nat)(op im:Int)(kc r191:List IV)(h:Heap):=(b1P kn h).set id (IObj.cells (List.take 2 r191++(d7X op im kn kc h)++List.drop 3 r191))
def b6V(kn:Nat):=((0:Nat)+kn)*1
abbrev b6W(x:Nat):=0<=(↑x:Int)
abbrev d8D(op im:Int)(p:PSt)(x:Nat):=x<=List.length (PSt.ns p)/\∀(j:Nat),j<x->(PSt.ns p)[j]?≠some (Nd.mk op im (PSt.ks p))
def d8E(h:Heap)(id kn x:Nat)(im op:Int)(p:PSt):Prop:= ∃(yy:Nat),some (sM id)=some (sM id)/\some sL=some sL/\some (d7Z x)=some (b6T yy)/\some (b1Q op im)=some (b1Q op im)/\h=h/\(kn=0/\PuI p op im yy)/\List.length (PSt.ns p)-yy< (PSt.ns p).length-x
def d8F(h:Heap)(id kn x:Nat)(im op:Int)(kc:List IV)(p:PSt):Prop:= ∃(yy:Nat),some (sM id)=some (sM id)/\some sL=some sL/\some (d7Z x)=some (b6T yy)/\some (c1R op im kn kc h)=some (b1Q op im)/\Heap.push h (IObj.tip kn)=h/\(kn=0/\PuI p op im yy)/\List.length (PSt.ns p)-yy< (PSt.ns p).length-x
def d8G(h:Heap)(id kn x:Nat)(im op:Int)(kc:List IV)(p:PSt):Prop:= ∃(yy:Nat),some (sM id)=some (sM id)/\some sL=some sL/\some (d7Z x)=some (b6T yy)/\some (b1Q op im)=some (c1R op im kn kc h)/\h=h.push (IObj.tip kn)/\(yy<=List.length (PSt.ns p)/\∀(j:Nat),j<yy->(PSt.ns p)[j]?≠some (Nd.mk op im (PSt.ks p)))/\List.length
 (PSt.ns p)-yy< (PSt.ns p).length-x
def d8H(h:Heap)(id kn x:Nat)(im op:Int)(kc:List IV)(p:PSt):Prop:= ∃(yy:Nat),some (sM id)=some (sM id)/\some sL=some sL/\some (d7Z x)=some (b6T yy)/\some (c1R op im kn kc h)=some (c1R op im kn kc h)/\Heap.push h (IObj.tip kn)=h.push (IObj.tip kn)/\(yy<=List.length (PSt.ns p)/\∀(j:Nat),j<yy->(PSt.ns p)[j]?≠some (Nd.mk op
 im (PSt.ks p)))/\List.length (PSt.ns p)-yy< (PSt.ns p).length-x
theorem g7A(id:Nat)(op im:Int)(kn:Nat)(kc:List IV)(p:PSt)(h:Heap)(Q:KT):dF (aV b1O) env 77 dV (tK 4 (g2H id op im kn kc p h)) bT [.ptr id 0,.int .i64 op,.int .i64 im,.vslice none 0 kn 1 kc] h Q=(
 aM (Nat.beq kn (0:Nat)) (((∃(x:Nat),some (sM id)=some (sM id)/\some sL=some sL/\some d8C=some (TV.v (b1S x))/\some (b1Q op im)=some (b1Q op im)/\h=h/\(kn=0/\PuI p op im x)/\True) \/ ∃(x:Nat),some (sM id)=some (sM id)/\some sL=some sL/\some d8C=some (TV.v (b1S x))/\some (b1Q op im)=some (c1R op im kn kc h)/\h=h.push (IObj.tip kn)/\(d8D op im p x)/\True)/\(∀(x:Nat)(b:FF),kn=0/\PuI p op im x->aF h id fun r0=>cK 3 r0 2 (aF h id fun r1=>cK (3:Nat) r1 2 (aF (b1R h) id fun r2=>aC (Nat.ble 3 r2.length) (aF (c7P id op im h r2) id fun r3=>cK 3 r3 2 (Q sK (c7P id op im h r2)) fun(i4 e5 l6:Nat)(c7:List IV)=>Q (.int .i64 (wW ((↑l6:Int)-1))) (c7P id op im h r2))) fun(i8 e9 l10:Nat)(c11:List IV)=>dG h i8 fun(m12:Nat)=>aC (Nat.beq m12 e9&&Nat.ble ((l10+1)*40) (140737488355328:Nat)) (aF (h.set i8 (IObj.tip (e9+3))) id fun r13=>aC (Nat.ble (3:Nat) r13.length) (aF (e6R id i8 e9 l10 op im h c11 r13) id fun r14=>cK 3 r14 2 (Q sK (e6R id i8 e9 l10 op im h c11 r13)) fun(i15 e16 l17:Nat)(c18:List IV)=>Q (.int .i64 (wW ((↑l17:Int)-1))) (e6R id i8 e9 l10 op im h c11 r13)))) fun(i19 e20 l21:Nat)(c22:List IV)=>aM (decide ((↑x:Int)< (↑l21:Int))) (aF h id fun r23=>cK 3 r23 2 False fun(i24 e25 l26:Nat)(c27:List IV)=>aC (decide (b6W x) &&decide ((↑x:Int)< (↑l26:Int))) (aK .i64 c27 (b6U x) fun n28=>aK .i64 c27 (d8B x) fun n29=>bH 1 c27 (d8A x) fun(i30:Option Nat)(e31 l32:Nat)(c33:List IV)=> ∃(ks ks2:List Int),(l32=ks.length/\c33=List.map b1T ks)/\((0:Nat)=ks2.length/\[]=List.map b1T ks2)/\ks.length<=1000000000/\aM (decide (Nd.mk n28 n29 ks=Nd.mk op im ks2)) (Q (b1S x) h) ((d8E h id kn x im op p) \/d8G h id kn x im op kc p))) (aF h id fun r34=>cK 3 r34 2 (aF (b1R h) id fun r35=>aC (Nat.ble (3:Nat) r35.length) (aF (c7Q id op im h r35) id fun r36=>cK 3 r36 2 (Q sK (c7Q id op im h r35)) fun(i37 e38 l39:Nat)(c40:List IV)=>Q (.int .i64 (wW ((↑l39:Int)-1))) (c7Q id op im h r35))) fun(i41 e42 l43:Nat)(c44:List IV)=>dG h i41 fun(m45:Nat)=>aC (Nat.beq m45 e42&&Nat.ble ((l43+1)*40) (140737488355328:Nat)) (aF (h.set i41 (IObj.tip (e42+3))) id fun r46=>aC (Nat.ble 3 r46.length) (aF (e6S id i41 e42 l43 op im h c44 r46) id fun r47=>cK 3 r47 2 (Q sK (e6S id i41 e42 l43 op im h c44 r46)) fun(i48 e49 l50:Nat)(c51:List IV)=>Q (.int .i64 (wW ((↑l50:Int)-1))) (e6S id i41 e42 l43 op im h c44 r46)))))/\∀(x:Nat)(b:FF),PuI p op im x->aF (mD kn h) id fun r52=>cK 3 r52 2 (aF (mD kn h) id fun r53=>cK 3 r53 2 (aF (b1P kn h) id fun r54=>aC (Nat.ble 3 r54.length) (aF (c7T id kn op im kc r54 h) id fun(r55:List IV)=>cK 3 r55 2 (Q sK (c7T id kn op im kc r54 h)) fun(i56 e57 l58:Nat)(c59:List IV)=>Q (.int .i64 (wW ((↑l58:Int)-1))) (c7T id kn op im kc r54 h))) fun(i60 e61 l62:Nat)(c63:List IV)=>dG (mD kn h) i60 fun(m64:Nat)=>aC (Nat.beq m64 e61&&Nat.ble ((l62+1)*40) (140737488355328:Nat)) (aF ((mD kn h).set i60 (IObj.tip (e61+3))) id fun r65=>aC (Nat.ble 3 r65.length) (aF (e6V id kn i60 e61 l62 op im kc c63 r65 h) id fun(r66:List IV)=>cK 3 r66 2 (Q sK (e6V id kn i60 e61 l62 op im kc c63 r65 h)) fun(i67 e68 l69:Nat)(c70:List IV)=>Q (.int .i64 (wW ((↑l69:Int)-1))) (e6V id kn i60 e61 l62 op im kc c63 r65 h)))) fun(i71 e72 l73:Nat)(c74:List IV)=>aM (decide ((↑x:Int)< (↑l73:Int))) (aF (mD kn h) id fun r75=>cK 3 r75 2 False fun(i76 e77 l78:Nat)(c79:List IV)=>aC (decide (b6W x) &&decide ((↑x:Int)< (↑l78:Int))) (aK .i64 c79 (b6U x) fun n80=>aK .i64 c79 (d8B x) fun n81=>bH 1 c79 (d8A x) fun(i82:Option Nat)(e83 l84:Nat)(c85:List IV)=> ∃(ks ks2:List Int),(l84=ks.length/\c85=List.map b1T ks)/\(kn=ks2.length/\kc=List.map b1T ks2)/\ks.length<=1000000000/\aM (decide (Nd.mk n80 n81 ks=Nd.mk op im ks2)) (Q (b1S x) (mD kn h)) ((d8F h id kn x im op kc p) \/d8H h id kn x im op kc p))) (aF (mD kn h) id fun r86=>cK 3 r86 2 (aF (b1P kn h) id fun r87=>aC (Nat.ble 3 r87.length) (aF (c7U id kn op im kc r87 h) id fun r88=>cK 3 r88 2 (Q sK (c7U id kn op im kc r87 h)) fun(i89 e90 l91:Nat)(c92:List IV)=>Q (.int .i64 (wW ((↑l91:Int)-1))) (c7U id kn op im kc r87 h))) fun(i93 e94 l95:Nat)(c96:List IV)=>dG (mD kn h) i93 fun(m97:Nat)=>aC (Nat.beq m97 e94&&Nat.ble ((l95+1)*40) (140737488355328:Nat)) (aF ((mD kn h).set i93 (IObj.tip (e94+3))) id fun r98=>aC (Nat.ble 3 r98.length) (aF (e6W id kn i93 e94 l95 op im kc c96 r98 h) id fun r99=>cK 3 r99 2 (Q sK (e6W id kn i93 e94 l95 op im kc c96 r98 h)) fun(i100 e101 l102:Nat)(c103:List IV)=>Q (.int .i64 (wW ((↑l102:Int)-1))) (e6W id kn i93 e94 l95 op im kc c96 r98 h))))) (aC (Nat.ble (((0:Nat)+kn)*8) (140737488355328:Nat)) (((∃(x:Nat),some (sM id)=some (sM id)/\some sL=some sL/\some d8C=some (TV.v (b1S x))/\some [iI op,iI im,IV.vslice (some (h.next)) (b6V kn) ((0:Nat)+kn) 1 kc]=some (b1Q op im)/\Heap.push h (IObj.tip (b6V kn))=h/\(kn=0/\PuI p op im x)/\True) \/ ∃(x:Nat),some (sM id)=some (sM id)/\some sL=some sL/\some d8C=some (TV.v (b1S x))/\some [iI op,iI im,IV.vslice (some (h.next)) (b6V kn) ((0:Nat)+kn) 1 kc]=some (c1R op im kn kc h)/\Heap.push h (IObj.tip (b6V kn))=h.push (IObj.tip kn)/\(d8D op im p x)/\True)/\(∀(x:Nat)(b:FF),kn=0/\PuI p op im x->aF h id fun r104=>cK 3 r104 2 (aF h id fun(r105:List IV)=>cK 3 r105 2 (aF (b1R h) id fun r106=>aC (Nat.ble 3 r106.length) (aF (c7R id op im h r106) id fun r107=>cK 3 r107 2 (Q sK (c7R id op im h r106)) fun(i108 e109 l110:Nat)(c111:List IV)=>Q (.int .i64 (wW ((↑l110:Int)-1))) (c7R id op im h r106))) fun(i112 e113 l114:Nat)(c115:List IV)=>dG h i112 fun(m116:Nat)=>aC (Nat.beq m116 e113&&Nat.ble ((l114+1)*40) (140737488355328:Nat)) (aF (h.set i112 (IObj.tip (e113+3))) id fun r117=>aC (Nat.ble 3 r117.length) (aF (e6T id i112 e113 l114 op im h c115 r117) id fun r118=>cK 3 r118 2 (Q sK (e6T id i112 e113 l114 op im h c115 r117)) fun(i119 e120 l121:Nat)(c122:List IV)=>Q (.int .i64 (wW ((↑l121:Int)-1))) (e6T id i112 e113 l114 op im h c115 r117)))) fun(i123 e124 l125:Nat)(c126:List IV)=>aM (decide ((↑x:Int)< (↑l125:Int))) (aF h id fun r127=>cK 3 r127 2 False fun(i128 e129 l130:Nat)(c131:List IV)=>aC (decide (b6W x) &&decide ((↑x:Int)< (↑l130:Int))) (aK .i64 c131 (b6U x) fun n132=>aK .i64 c131 (d8B x) fun n133=>bH 1 c131 (d8A x) fun(i134:Option Nat)(e135 l136:Nat)(c137:List IV)=> ∃(ks:List Int),∃(ks2:List Int),(l136=ks.length/\c137=List.map b1T ks)/\((0:Nat)=ks2.length/\[]=List.map b1T ks2)/\ks.length<=1000000000/\aM (decide (Nd.mk n132 n133 ks=Nd.mk op im ks2)) (Q (b1S x) h) ((d8E h id kn x im op p) \/d8G h id kn x im op kc p))) (aF h id fun r138=>cK 3 r138 2 (aF (b1R h) id fun r139=>aC (Nat.ble 3 r139.length) (aF (c7S id op im h r139) id fun r140=>cK 3 r140 2 (Q sK (c7S id op im h r139)) fun(i141 e142 l143:Nat)(c144:List IV)=>Q (.int .i64 (wW ((↑l143:Int)-1))) (c7S id op im h r139))) fun(i145 e146 l147:Nat)(c148:List IV)=>dG h i145 fun(m149:Nat)=>aC (Nat.beq m149 e146&&Nat.ble ((l147+1)*40) (140737488355328:Nat)) (aF (h.set i145 (IObj.tip (e146+3))) id fun r150=>aC (Nat.ble 3 r150.length) (aF (e6U id i145 e146 l147 op im h c148 r150) id fun r151=>cK 3 r151 2 (Q sK (e6U id i145 e146 l147 op im h c148 r150)) fun(i152 e153 l154:Nat)(c155:List IV)=>Q (.int .i64 (wW ((↑l154:Int)-1))) (e6U id i145 e146 l147 op im h c148 r150)))))/\∀(x:Nat)(b:FF),PuI p op im x->aF (mD kn h) id fun r156=>cK 3 r156 2 (aF (mD kn h) id fun(r157:List IV)=>cK 3 r157 2 (aF (b1P kn h) id fun r158=>aC (Nat.ble 3 r158.length) (aF (c7V id kn op im kc r158 h) id fun r159=>cK 3 r159 2 (Q sK (c7V id kn op im kc r158 h)) fun(i160 e161 l162:Nat)(c163:List IV)=>Q (.int .i64 (wW ((↑l162:Int)-1))) (c7V id kn op im kc r158 h))) fun(i164 e165 l166:Nat)(c167:List IV)=>dG (mD kn h) i164 fun(m168:Nat)=>aC (Nat.beq m168 e165&&Nat.ble ((l166+1)*40) (140737488355328:Nat)) (aF ((mD kn h).set i164 (IObj.tip (e165+3))) id fun r169=>aC (Nat.ble 3 r169.length) (aF (e6X id kn i164 e165 l166 op im kc c167 r169 h) id fun r170=>cK 3 r170 2 (Q sK (e6X id kn i164 e165 l166 op im kc c167 r169 h)) fun(i171 e172 l173:Nat)(c174:List IV)=>Q (.int .i64 (wW ((↑l173:Int)-1))) (e6X id kn i164 e165 l166 op im kc c167 r169 h)))) fun(i175 e176 l177:Nat)(c178:List IV)=>aM (decide ((↑x:Int)< (↑l177:Int))) (aF (mD kn h) id fun r179=>cK 3 r179 2 False fun(i180 e181 l182:Nat)(c183:List IV)=>aC (decide (b6W x) &&decide ((↑x:Int)< (↑l182:Int))) (aK .i64 c183 (b6U x) fun n184=>aK .i64 c183 (d8B x) fun n185=>bH 1 c183 (d8A x) fun(i186:Option Nat)(e187 l188:Nat)(c189:List IV)=> ∃(ks ks2:List Int),(l188=ks.length/\c189=List.map b1T ks)/\(kn=ks2.length/\kc=List.map b1T ks2)/\ks.length<=1000000000/\aM (decide (Nd.mk n184 n185 ks=Nd.mk op im ks2)) (Q (b1S x) (mD kn h)) ((d8F h id kn x im op kc p) \/d8H h id kn x im op kc p))) (aF (mD kn h) id fun r190=>cK 3 r190 2 (aF (b1P kn h) id fun r191=>aC (Nat.ble 3 r191.length) (aF (c7W id kn op im kc r191 h) id fun(r192:List IV)=>cK 3 r192 2 (Q sK (c7W id kn op im kc r191 h)) fun(i193 e194 l195:Nat)(c196:List IV)=>Q (.int .i64 (wW ((↑l195:Int)-1))) (c7W id kn op im kc r191 h))) fun(i197 e198 l199:Nat)(c200:List IV)=>dG (mD kn h) i197 fun(m201:Nat)=>aC (Nat.beq m201 e198&&Nat.ble ((l199+1)*40) (140737488355328:Nat)) (aF ((mD kn h).set i197 (IObj.tip (e198+3))) id fun r202=>aC (Nat.ble 3 r202.length) (aF (e6Y id kn i197 e198 l199 op im kc c200 r202 h) id fun r203=>cK 3 r203 2 (Q sK (e6Y id kn i197 e198 l199 op im kc c200 r202 h)) fun(i204 e205 l206:Nat)(c207:List IV)=>Q (.int .i64 (wW ((↑l206:Int)-1))) (e6Y id kn i197 e198 l199 op im kc c200 r202 h))))))):=by kernel_rfl
theorem g7B: ∀xs h Q,f5I xs h Q->aU env 77 xs h Q:=by
 intro xs h Q hk;unfold f5I at hk;split at hk
 ·rename_i id op im kn kc;obtain⟨p,hp,hk⟩:=hk;refine aS (b6S) (g7A id op im kn kc p h Q) ?_;delta d8E d8F d8G d8H d1X d1Y d7X b1P d7Y b1Q mD sK b1R sL c1R sM e6R e6S e6T e6U e6V e6W d7Z e6X e6Y b1S d8A b1T d8B d8C c7P c7Q c7R c7S b6T b6U c7T c7U c7V c7W b6V b6W d8D wW iI;obtain⟨ns,ks,a,b,c,d,e,f⟩:=p;obtain⟨hid,⟨lv,hg,hl⟩,⟨rfl,rfl⟩,⟨ho,hk40⟩,hns,hlen⟩:=hp;dsimp only at hg hl ho hk40 hns hlen⊢;refine aD (fun c0=>⟨.inl ⟨0,rfl,rfl,rfl,rfl,rfl,⟨bY.1 c0,h1N _,fun j hj=>by omega⟩,trivial⟩,?_,?_⟩) (fun c0=>aA (by rw [h1S];omega) ⟨.inr ⟨0,rfl,rfl,rfl,(by rw [h1Q,h1W]),(by rw [h1Q,h1W]),⟨h1N _,fun j hj=>by omega⟩,trivial⟩,?_,?_⟩)
  ·rintro i _ ⟨h0,hi,hj⟩;have hks:ks=[]:=h3X h0;subst hks;dsimp only at hi hj;have gg:=hg;have gl:=hl;have gf:FC id h h:=FC.refl;have gid:id<h.next:=h1C hid gf.1;rcases gl with⟨h1,h2⟩| ⟨io,h1,ht,hio,hne⟩
   ·subst h1 h2;exact aB gg (fC rfl (aB gg (fC rfl (aB ((aJ gid).trans gg) (aA rfl (aB aH (dI rfl (hk (IntKind.i64.wrap (((1:Nat):Int)-1)) _ (aQ.nil (p:=⟨[],[],a,b,c,d,e,f⟩) gid gf gg rfl (by decide))))))))))
   ·subst h1;refine aB gg (dI rfl (dW (fun c1=>?_) (fun c1=>?_)))
    ·have hlt:i<ns.length:=by omega
     have hkl:=(hns _ (h1B hlt)).2;refine aB gg (dI rfl (aP (by omega) (a6X hlt (by rw [h0Z]) ⟨ns[i].ks,[],⟨rfl,rfl⟩,⟨rfl,rfl⟩,by omega,dW (fun c2=>?_) (fun c2=> .inl ⟨i+1,rfl,rfl,(by(try dsimp only);rw [h0X _ (by omega)];rfl),rfl,rfl,⟨rfl,hlt,?_⟩,by(try dsimp only);omega⟩)⟩)))
     ·exact hk _ _ (aQ.old (p:=⟨ns,[],a,b,c,d,e,f⟩) (i:=i) gf gg (.inr ⟨io,rfl,ht,hio,hne⟩) ((h0U hlt).trans (congrArg some c2)) hj rfl)
     ·intro j hj2;rcases h2D j i with q|q
      ·exact hj j q
      ·have q2:j=i:=by(try dsimp only at hj2);omega
       rw [q2,h0U hlt];exact fun q3=>c2 (h1M q3)
    ·have hil:i=ns.length:=by omega
     have hno:(⟨op,im,[]⟩:Nd) ∉ns:=fun hm=>by
      obtain⟨j,hjl,hje⟩:=h4L.1 hm;exact hj j (by omega) ((h0U hjl).trans (congrArg some hje))
     refine aB gg (dI rfl (bE ht (aA (by simp only [h0Y,bY,h1S,true_and];omega) (aB ((aE (fun q=>hne q.symm)).trans gg) (aA rfl (aB aH (dI rfl (hk _ _ (aQ.new (p:=⟨ns,[],a,b,c,d,e,f⟩) gid gf gg rfl ht hio hne hno ?_)))))))));show IntKind.i64.wrap (((ns.length+1:Nat):Int)-1)=_;rw [h0X _ (by omega)];dsimp only;omega
  ·rintro i _ ⟨hi,hj⟩;dsimp only at hi hj;have gg:(h.push (.tip ks.length)).get id= .cells [a,b,lv,c,d,e,f]:=(aJ hid).trans hg;have gl:=hl.push (x:= .tip ks.length);have gf:FC id h (h.push (.tip ks.length)):=FC.push hid;rw [show h.next+1=(h.push (.tip ks.length)).next from rfl];generalize hgg:h.push (.tip ks.length)=g at gg gl gf⊢;have gid:id<g.next:=h1C hid gf.1;rcases gl with⟨h1,h2⟩| ⟨io,h1,ht,hio,hne⟩
   ·subst h1 h2;exact aB gg (fC rfl (aB gg (fC rfl (aB ((aJ gid).trans gg) (aA rfl (aB aH (dI rfl (hk (IntKind.i64.wrap (((1:Nat):Int)-1)) _ (aQ.nil (p:=⟨[],ks,a,b,c,d,e,f⟩) gid gf gg rfl (by decide))))))))))
   ·subst h1;refine aB gg (dI rfl (dW (fun c1=>?_) (fun c1=>?_)))
    ·have hlt:i<ns.length:=by omega
     have hkl:=(hns _ (h1B hlt)).2;refine aB gg (dI rfl (aP (by omega) (a6X hlt (by rw [h0Z]) ⟨ns[i].ks,ks,⟨rfl,rfl⟩,⟨rfl,rfl⟩,by omega,dW (fun c2=>?_) (fun c2=> .inr ⟨i+1,rfl,rfl,(by(try dsimp only);rw [h0X _ (by omega)];rfl),rfl,rfl,⟨hlt,?_⟩,by(try dsimp only);omega⟩)⟩)))
     ·exact hk _ _ (aQ.old (p:=⟨ns,ks,a,b,c,d,e,f⟩) (i:=i) gf gg (.inr ⟨io,rfl,ht,hio,hne⟩) ((h0U hlt).trans (congrArg some c2)) hj rfl)
     ·intro j hj2;rcases h2D j i with q|q
      ·exact hj j q
      ·have q2:j=i:=by(try dsimp only at hj2);omega
       rw [q2,h0U hlt];exact fun q3=>c2 (h1M q3)
    ·have hil:i=ns.length:=by omega
     have hno:(⟨op,im,ks⟩:Nd) ∉ns:=fun hm=>by
      obtain⟨j,hjl,hje⟩:=h4L.1 hm;exact hj j (by omega) ((h0U hjl).trans (congrArg some hje))
     refine aB gg (dI rfl (bE ht (aA (by simp only [h0Y,bY,h1S,true_and];omega) (aB ((aE (fun q=>hne q.symm)).trans gg) (aA rfl (aB aH (dI rfl (hk _ _ (aQ.new (p:=⟨ns,ks,a,b,c,d,e,f⟩) gid gf gg rfl ht hio hne hno ?_)))))))));show IntKind.i64.wrap (((ns.length+1:Nat):Int)-1)=_;rw [h0X _ (by omega)];dsimp only;omega
  ·rintro i _ ⟨h0,hi,hj⟩;have hks:ks=[]:=h3X h0;subst hks;dsimp only at hi hj;have gg:=hg;have gl:=hl;have gf:FC id h h:=FC.refl;have gid:id<h.next:=h1C hid gf.1;rcases gl with⟨h1,h2⟩| ⟨io,h1,ht,hio,hne⟩
   ·subst h1 h2;exact aB gg (fC rfl (aB gg (fC rfl (aB ((aJ gid).trans gg) (aA rfl (aB aH (dI rfl (hk (IntKind.i64.wrap (((1:Nat):Int)-1)) _ (aQ.nil (p:=⟨[],[],a,b,c,d,e,f⟩) gid gf gg rfl (by decide))))))))))
   ·subst h1;refine aB gg (dI rfl (dW (fun c1=>?_) (fun c1=>?_)))
    ·have hlt:i<ns.length:=by omega
     have hkl:=(hns _ (h1B hlt)).2;refine aB gg (dI rfl (aP (by omega) (a6X hlt (by rw [h0Z]) ⟨ns[i].ks,[],⟨rfl,rfl⟩,⟨rfl,rfl⟩,by omega,dW (fun c2=>?_) (fun c2=> .inl ⟨i+1,rfl,rfl,(by(try dsimp only);rw [h0X _ (by omega)];rfl),rfl,rfl,⟨rfl,hlt,?_⟩,by(try dsimp only);omega⟩)⟩)))
     ·exact hk _ _ (aQ.old (p:=⟨ns,[],a,b,c,d,e,f⟩) (i:=i) gf gg (.inr ⟨io,rfl,ht,hio,hne⟩) ((h0U hlt).trans (congrArg some c2)) hj rfl)
     ·intro j hj2;rcases h2D j i with q|q
      ·exact hj j q
      ·have q2:j=i:=by(try dsimp only at hj2);omega
       rw [q2,h0U hlt];exact fun q3=>c2 (h1M q3)
    ·have hil:i=ns.length:=by omega
     have hno:(⟨op,im,[]⟩:Nd) ∉ns:=fun hm=>by
      obtain⟨j,hjl,hje⟩:=h4L.1 hm;exact hj j (by omega) ((h0U hjl).trans (congrArg some hje))
     refine aB gg (dI rfl (bE ht (aA (by simp only [h0Y,bY,h1S,true_and];omega) (aB ((aE (fun q=>hne q.symm)).trans gg) (aA rfl (aB aH (dI rfl (hk _ _ (aQ.new (p:=⟨ns,[],a,b,c,d,e,f⟩) gid gf gg rfl ht hio hne hno ?_)))))))));show IntKind.i64.wrap (((ns.length+1:Nat):Int)-1)=_;rw [h0X _ (by omega)];dsimp only;omega
  ·rintro i _ ⟨hi,hj⟩;dsimp only at hi hj;have gg:(h.push (.tip ks.length)).get id= .cells [a,b,lv,c,d,e,f]:=(aJ hid).trans hg;have gl:=hl.push (x:= .tip ks.length);have gf:FC id h (h.push (.tip ks.length)):=FC.push hid;rw [show h.next+1=(h.push (.tip ks.length)).next from rfl];generalize hgg:h.push (.tip ks.length)=g at gg gl gf⊢;have gid:id<g.next:=h1C hid gf.1;rcases gl with⟨h1,h2⟩| ⟨io,h1,ht,hio,hne⟩
   ·subst h1 h2;exact aB gg (fC rfl (aB gg (fC rfl (aB ((aJ gid).trans gg) (aA rfl (aB aH (dI rfl (hk (IntKind.i64.wrap (((1:Nat):Int)-1)) _ (aQ.nil (p:=⟨[],ks,a,b,c,d,e,f⟩) gid gf gg rfl (by decide))))))))))
   ·subst h1;refine aB gg (dI rfl (dW (fun c1=>?_) (fun c1=>?_)))
    ·have hlt:i<ns.length:=by omega
     have hkl:=(hns _ (h1B hlt)).2;refine aB gg (dI rfl (aP (by omega) (a6X hlt (by rw [h0Z]) ⟨ns[i].ks,ks,⟨rfl,rfl⟩,⟨rfl,rfl⟩,by omega,dW (fun c2=>?_) (fun c2=> .inr ⟨i+1,rfl,rfl,(by(try dsimp only);rw [h0X _ (by omega)];rfl),rfl,rfl,⟨hlt,?_⟩,by(try dsimp only);omega⟩)⟩)))
     ·exact hk _ _ (aQ.old (p:=⟨ns,ks,a,b,c,d,e,f⟩) (i:=i) gf gg (.inr ⟨io,rfl,ht,hio,hne⟩) ((h0U hlt).trans (congrArg some c2)) hj rfl)
     ·intro j hj2;rcases h2D j i with q|q
      ·exact hj j q
      ·have q2:j=i:=by(try dsimp only at hj2);omega
       rw [q2,h0U hlt];exact fun q3=>c2 (h1M q3)
    ·have hil:i=ns.length:=by omega
     have hno:(⟨op,im,ks⟩:Nd) ∉ns:=fun hm=>by
      obtain⟨j,hjl,hje⟩:=h4L.1 hm;exact hj j (by omega) ((h0U hjl).trans (congrArg some hje))
     refine aB gg (dI rfl (bE ht (aA (by simp only [h0Y,bY,h1S,true_and];omega) (aB ((aE (fun q=>hne q.symm)).trans gg) (aA rfl (aB aH (dI rfl (hk _ _ (aQ.new (p:=⟨ns,ks,a,b,c,d,e,f⟩) gid gf gg rfl ht hio hne hno ?_)))))))));show IntKind.i64.wrap (((ns.length+1:Nat):Int)-1)=_;rw [h0X _ (by omega)];dsimp only;omega
 ·exact hk.elim
def f5J:=bB 77 f5I b1O
theorem e9Z:aT env f5J:=aI g7B (b6S)
def g2I(id:Nat)(s:BSt)(nm:List UInt8)(h:Heap):Inv':=hJ Nat (fun i=>[(0,.v (.ptr id 0)),(1,.v (.str nm)),(5,.v (.int .i64 (i:Int)))]) (fun _=>[]) (fun _=>h) (fun i=>i<=(bN s.f).length/\nm∉ (bN s.f).take i) (fun i=>(bN s.f).length-i)
def f5K(xs:List IV)(h:Heap)(K:KT):Prop:=match xs with
 | [.ptr id 0,.str nm]=> ∃s:BSt,(BH h id s/\nm∈bN s.f)/\∀i:Nat,i< (bN s.f).length->K (.int .i64 (i:Int)) h
 |_=>False
theorem g7C(id:Nat)(s:BSt)(nm:List UInt8)(h:Heap)(Q:KT):dF (aV f5J) env 148 dV (tK 3 (g2I id s nm h)) bT [.ptr id 0,.str nm] h Q=(
 (∃(x:Nat),some (TV.v (.ptr id 0))=some (TV.v (.ptr id 0))/\some (TV.v (.str nm))=some (TV.v (.str nm))/\tI 0=tI (↑x:Int)/\h=h/\(x<=List.length (bN (BSt.f s))/\¬nm∈List.take x (bN (BSt.f s)))/\True)/\∀(x:Nat)(b:FF),x<=List.length (bN (BSt.f s))/\¬nm∈List.take x (bN (BSt.f s))->aF h id fun r0=>bH 1 r0 3 fun(i1:Option Nat)(e2 l3:Nat)(c4:List IV)=>aM (decide ((↑x:Int)< (↑l3:Int))) (aF h id fun r5=>bH 1 r5 3 fun(i6:Option Nat)(e7 l8:Nat)(c9:List IV)=>aC (decide (0<=(↑x:Int)) &&decide ((↑x:Int)< (↑l8:Int))) (bZ c9 ((↑x:Int).toNat*1) fun(s10:List UInt8)=>aM (s10==nm) (Q (.int .i64 (↑x:Int)) h) (∃(x_1:Nat),some (TV.v (.ptr id 0))=some (TV.v (.ptr id 0))/\some (TV.v (.str nm))=some (TV.v (.str nm))/\tI (wW ((↑x:Int)+1))=tI (↑x_1:Int)/\h=h/\(x_1<=List.length (bN (BSt.f s))/\¬nm∈List.take x_1 (bN (BSt.f s)))/\List.length (bN (BSt.f s))-x_1< (bN (BSt.f s)).length-x))) (Q (.int .i64 0) h)):=by kernel_rfl
theorem g7D: ∀xs h Q,f5K xs h Q->aU env 148 xs h Q:=by
 intro xs h Q hk;unfold f5K at hk;split at hk
 ·rename_i id nm;obtain⟨s,⟨hb,hm⟩,hk⟩:=hk;refine aS (e9Z) (g7C id s nm h Q) ?_;delta tI wW;obtain⟨hid,⟨lv,hg,_⟩,_⟩:=hb;have hnl:=xI s.f;refine⟨⟨0,rfl,rfl,rfl,rfl,⟨h1N _,by simp⟩,trivial⟩,?_⟩;rintro i _ ⟨hi,hn⟩;refine aB hg (dY rfl (dW (fun c=>?_) (fun c=>?_)))
  ·have hlt:i< (bN s.f).length:=by omega
   refine aB hg (dY rfl (aP (by omega) (hU (b:=(bN s.f)[i]) (by rw [h0Z,h1W,h2A,h0U hlt];rfl) (aD (fun c2=>hk i hlt) (fun c2=>⟨i+1,rfl,rfl,(by(try dsimp only);rw [h0X _ (by omega)];rfl),rfl,⟨hlt,?_⟩,by omega⟩)))));rw [beq_eq_false_iff_ne]at c2;rw [h1J hlt,h2S,h2J];exact fun q=>q.elim hn fun q=>c2 q.symm
  ·rw [h1H (by omega)]at hn;exact absurd hm hn
 ·exact hk.elim
def f5L:=bB 148 f5K f5J
theorem f0A:aT env f5L:=aI g7D (e9Z)
def f5M(xs:List IV)(h:Heap)(K:KT):Prop:=match xs with
 | [.ptr id 0,.str nm]=> ∃s:BSt,(BH h id s/\qG s.pa s.pf/\nm∈oW)/\∀i:Nat,i<2->K (.int .i64 (i:Int)) h
 |_=>False
theorem g7E(id:Nat)(s:BSt)(nm:List UInt8)(h:Heap)(Q:KT):dF (aV f5L) env 149 (fun k=>if k=3 then 3 else 0) bT bT [.ptr id 0,.str nm] h Q=(
 aF h id fun r0=>bH 2 r0 0 fun(i1:Option Nat)(e2 l3:Nat)(c4:List IV)=>aM (decide (0< (↑l3:Int))) (aF h id fun r5=>bH 2 r5 0 fun(i6:Option Nat)(e7 l8:Nat)(c9:List IV)=>aC (true&&decide (0< (↑l8:Int))) (bZ c9 0 fun(s10:List UInt8)=>aM (s10==nm) (Q (.int .i64 0) h) (aF h id fun r11=>bH 2 r11 0 fun(i12:Option Nat)(e13 l14:Nat)(c15:List IV)=>aM (decide (1< (↑l14:Int))) (aF h id fun r16=>bH 2 r16 0 fun(i17:Option Nat)(e18 l19:Nat)(c20:List IV)=>aC (true&&decide (1< (↑l19:Int))) (bZ c20 2 fun(s21:List UInt8)=>aM (s21==nm) (Q (.int .i64 1) h) (aF h id fun r22=>bH 2 r22 0 fun(i23:Option Nat)(e24 l25:Nat)(c26:List IV)=>aM (decide (2< (↑l25:Int))) (aF h id fun r27=>bH 2 r27 0 fun(i28:Option Nat)(e29 l30:Nat)(c31:List IV)=>aC (true&&decide (2< (↑l30:Int))) (bZ c31 4 fun(s32:List UInt8)=>aM (s32==nm) (Q (.int .i64 2) h) False)) (Q (.int .i64 0) h)))) (Q (.int .i64 0) h)))) (Q (.int .i64 0) h)):=by kernel_rfl
theorem g7F: ∀xs h Q,f5M xs h Q->aU env 149 xs h Q:=by
 intro xs h Q hk;unfold f5M at hk;split at hk
 ·rename_i id nm;obtain⟨s,⟨hb,hpp,hm⟩,hk⟩:=hk;refine aS (f0A) (g7E id s nm h Q) ?_;obtain⟨hid,⟨lv,hg,_⟩,_⟩:=hb;obtain⟨la,lb,b0,v0,b1,v1,_,hpa,_⟩:=hpp;have hA: ∀o:Nat,s.pa[o]?=(c1A la lb)[o]?:=fun o=>by rw [hpa]
  simp only [oW,h2O,h4G,or_false]at hm;refine aB hg (dY rfl (bt rfl (aB hg (dY rfl (aA rfl (hU ((hA 0).trans rfl) ?_))))));rcases hm with rfl|rfl
  ·exact bt rfl (hk 0 (by decide))
  ·exact bf rfl (aB hg (dY rfl (bt rfl (aB hg (dY rfl (aA rfl (hU ((hA 2).trans rfl) (bt rfl (hk 1 (by decide))))))))))
 ·exact hk.elim
def f5N:=bB 149 f5M f5L
theorem f0B:aT env f5N:=aI g7F (f0A)
def f5O(xs:List IV)(h:Heap)(K:KT):Prop:=match xs with
 | [.ptr id 0,.int .i64 c,.int .i64 a,.int .i64 b]=> ∃(s:BSt)(t:Int),(BH h id s/\GS s/\s.ns.length<99990/\SK s.ns 1 c/\(t=1\/t=2)/\SK s.ns t a/\SK s.ns t b)/\∀(v:Int)(h2:Heap)(ns2:List Nd),BE h id s h2 ns2 s.st 1->SK ns2 t v->K (.int .i64 v) h2
 |_=>False
theorem g7G(id:Nat)(c a b:Int)(h:Heap)(Q:KT):dF (aV f5N) env 151 dV bT bT [.ptr id 0,.int .i64 c,.int .i64 a,.int .i64 b] h Q=(
 aM (a==b) (Q (.int .i64 a) h) (∃(p:PSt),bI h id p (22:Int) (0:Int) 3 [iI c,iI a,iI b]/\∀(v:Int)(h2:Heap),aQ h id p (22:Int) (0:Int) v h2->Q (.int .i64 v) h2)):=by kernel_rfl
theorem g7H: ∀xs h Q,f5O xs h Q->aU env 151 xs h Q:=by
 intro xs h Q hk;unfold f5O at hk;split at hk
 ·rename_i id c a b;obtain⟨s,t,⟨hb,hg,hn,hc,ht,ha,hb2⟩,hk⟩:=hk;refine aS (f0B) (g7G id c a b h Q) ?_;delta iI;refine aD (fun e=>?_) (fun e=>?_)
  ·rw [beq_iff_eq]at e;exact hk a h s.ns ((BE.refl hb hg).le (h1N _)) ha
  ·have ht0:t≠0:=by omega
   refine⟨s.pst [c,a,b],hb.pre hg ⟨by decide,by decide⟩ (kb3 hc.kb ha.kb hb2.kb) (by show 3<=40;decide),fun v h2 p=>?_⟩;obtain⟨x,k1⟩:=BE.put (ss:=[1,t,t]) (t:=t) hb hg p ⟨⟨hc,by decide⟩,⟨ha,ht0⟩,⟨hb2,ht0⟩,trivial⟩ (by rcases ht with rfl|rfl;exact e5V;exact e5W) ht0 ⟨by decide,by decide⟩ ⟨by decide,by decide⟩ (by show 3<=40;decide) (by omega);exact hk v h2 _ x k1
 ·exact hk.elim
def f5P:=bB 151 f5O f5N
theorem f0C:aT env f5P:=aI g7H (f0B)
def f5Q(xs:List IV)(h:Heap)(K:KT):Prop:=match xs with
 | [.ptr id 0,.int .i64 a,.int .i64 i]=> ∃(s:BSt),(BH h id s/\GS s/\s.ns.length<99990/\(0<=a/\a<2)/\SK s.ns 1 i)/\∀(h2:Heap)(ns2:List Nd)(st2:Int),BE h id s h2 ns2 st2 3->K (.tuple []) h2
 |_=>False
theorem g7I(id:Nat)(a i:Int)(h:Heap)(Q:KT):dF (aV f5P) env 150 dV bT bT [.ptr id 0,.int .i64 a,.int .i64 i] h Q=(
 aF h id fun r0=>bH 2 r0 0 fun(i1:Option Nat)(e2 l3:Nat)(c4:List IV)=>aC (decide (0<=a) &&decide (a< (↑l3:Int))) (aK .i64 c4 (a.toNat*2+1) fun n5=> ∃(p:PSt),bI h id p (1:Int) n5 (0:Nat) []/\∀(v:Int)(h2:Heap),aQ h id p (1:Int) n5 v h2-> ∃(p:PSt),bI h2 id p (19:Int) (0:Int) 2 [iI i,iI v]/\∀(v:Int)(h2_1:Heap),aQ h2 id p (19:Int) (0:Int) v h2_1->aF h2_1 id fun r6=>aK .i64 r6 5 fun n7=> ∃(p:PSt),bI h2_1 id p (27:Int) (2:Int) 2 [iI n7,iI v]/\∀(v:Int)(h2:Heap),aQ h2_1 id p (27:Int) (2:Int) v h2->aF h2 id fun r8=>aC (Nat.ble 6 r8.length) (Q (.tuple []) (h2.set id (IObj.cells (List.take 5 r8++ [iI v]++List.drop 6 r8)))))):=by kernel_rfl
theorem g7J: ∀xs h Q,f5Q xs h Q->aU env 150 xs h Q:=by
 intro xs h Q hk;unfold f5Q at hk;split at hk
 ·rename_i id a i;obtain⟨s,⟨hb,hg,hn,ha,hi⟩,hk⟩:=hk;refine aS (f0C) (g7I id a i h Q) ?_;delta iI;obtain⟨la,lb,b0,v0,b1,v1,hpr,hpa,_⟩:=hg.pp;obtain⟨⟨a1,a2,a3,a4⟩,_⟩:=hpr;obtain⟨lv,hgl⟩:=(BE.refl hb hg).get;obtain⟨m,hm,hm1⟩: ∃m:Int,s.pa[a.toNat*2+1]?=some (.int .i64 m)/\bR m:=by
   have:a=0\/a=1:=by omega
   rcases this with rfl|rfl
   ·exact⟨la,by rw [hpa];rfl,by unfold bR;omega⟩
   ·exact⟨lb,by rw [hpa];rfl,by unfold bR;omega⟩
  refine aB hgl (dY rfl (aP ha (bV hm ⟨s.pst [],hb.pre hg ⟨by decide,hm1⟩ kb0 (by decide),fun v h2 p=>?_⟩)));obtain⟨x1,k1⟩:=BE.put (ss:=[]) (t:=1) hb hg p trivial eJ (by decide) ⟨by decide,by decide⟩ ⟨by decide,hm1⟩ (by decide) (by omega);have hi1:=hi.mono x1.gx.pre;have n1:=x1.len;generalize(fY s.ns ⟨1,m,[]⟩).1=ns1 at x1 k1 hi1 n1;refine⟨({s with ns:=ns1 } :BSt).pst [i,v],x1.bh.pre x1.gs ⟨by decide,by decide⟩ (kb2 hi1.kb k1.kb) (by show 2<=40;decide),fun v2 h3 p2=>?_⟩;obtain⟨x2,k2⟩:=BE.put (ss:=[1,1]) (t:=1) x1.bh x1.gs p2 ⟨⟨hi1,by decide⟩,⟨k1,by decide⟩,trivial⟩ (zI (by decide)) (by decide) ⟨by decide,by decide⟩ ⟨by decide,by decide⟩ (by show 2<=40;decide) (by show ns1.length<100000;omega);have y2:=x1.trans x2;have n2:=y2.len;obtain⟨lv2,hg2⟩:=y2.get;have hs2:=y2.gs.sk;generalize(fY ({s with ns:=ns1,st:=s.st } :BSt).ns ⟨19,0,[i,v]⟩).1=ns2 at y2 k2 hg2 n2 hs2;refine aB hg2 (bV rfl ⟨({s with ns:=ns2 } :BSt).pst [s.st,v2],y2.bh.pre y2.gs ⟨by decide,by decide⟩ (kb2 hs2.kb k2.kb) (by show 2<=40;decide),fun v3 h4 p3=>?_⟩);obtain⟨x3,k3⟩:=BE.put (ss:=[2,1]) (t:=2) y2.bh y2.gs p3 ⟨⟨hs2,by decide⟩,⟨k2,by decide⟩,trivial⟩ (xJ (by decide)) (by decide) ⟨by decide,by decide⟩ ⟨by decide,by decide⟩ (by show 2<=40;decide) (by show ns2.length<100000;omega);have y3:=y2.trans x3;obtain⟨lv3,hg3⟩:=y3.get;exact aB hg3 (aA rfl (hk _ _ _ (y3.st k3 hg3)))
 ·exact hk.elim
def f5R:=bB 150 f5Q f5P
theorem f0D:aT env f5R:=aI g7J (f0C)
def d8I(d:Nat)(xs:List IV)(h:Heap)(K:KT):Prop:=match xs with
 | [.ptr id 0,.agg [.int .i64 k,.int .i64 n,.str nm,.int .i64 op,.vslice none 0 m 5 c]]=> ∃(ks:List E)(s:BSt),(m=ks.length/\c=aW ks)/\ExPre h id s d k n nm op ks/\∀(v:Int)(h2:Heap),dR h id s (.mk k n nm op ks) v h2->K (.int .i64 v) h2
 |_=>False
def e6Z(ks:List E):=true&&decide (0< (↑ks.length:Int))
def c1S(v:Int):=iI v
def f5S(n25:Int)(r36:List IV):=IObj.cells (List.take 5 r36++ [iI n25]++List.drop 6 r36)
def f5T(v_4:Int)(r66:List IV):=IObj.cells (List.take 5 r66++ [iI v_4]++List.drop 6 r66)
def f5U(v_4:Int)(r69:List IV):=IObj.cells (List.take 5 r69++ [iI v_4]++List.drop 6 r69)
theorem g7K(dd:Nat)(id:Nat)(k n:Int)(nm:List UInt8)(op:Int)(ks:List E)(h:Heap)(Q:KT):dF (aV (bB 79 (d8I dd) f5R)) env 79 dV bT bT [.ptr id 0,.agg [.int .i64 k,.int .i64 n,.str nm,.int .i64 op,.vslice none 0 ks.length 5 (aW ks)]] h Q=(
 aM (k==1) (∃(p:PSt),bI h id p (1:Int) n (0:Nat) []/\∀(v:Int)(h2:Heap),aQ h id p (1:Int) n v h2->Q (c1S v) h2) (aM (k==2) (aF h id fun r0=>cT 1 r0 4 False fun(i1 o2 l3:Nat)=> ∃(s:BSt),(BH h id s/\List.Mem nm (bN (BSt.f s)))/\∀(i:Nat),i< (bN (BSt.f s)).length->aY h id (4:Nat)=aY h id (4:Nat)/\aC (decide (0<=(↑i:Int)) &&decide ((↑i:Int)< (↑l3:Int))) (aF h i1 fun r4=>aK .i64 r4 (o2+(↑i:Int).toNat*1) fun n5=>Q (.int .i64 n5) h)) (aM (k==3) (aC (e6Z ks) (aK .i64 (aW ks) 0 fun n6=>aK .i64 (aW ks) 1 fun n7=>bZ (aW ks) 2 fun(s8:List UInt8)=>aK .i64 (aW ks) 3 fun n9=>bH 5 (aW ks) 4 fun(i10:Option Nat)(e11 l12:Nat)(c13:List IV)=> ∃(ks:List E),∃(s:BSt),(l12=ks.length/\c13=aW ks)/\ExPre h id s dd n6 n7 s8 n9 ks/\∀(v:Int)(h2:Heap),dR h id s (E.mk n6 n7 s8 n9 ks) v h2-> ∃(s:BSt),(BH h2 id s/\qG (BSt.pa s) (BSt.pf s)/\List.Mem nm oW)/\∀(i:Nat),i<2-> ∃(s:BSt),(BH h2 id s/\GS s/\List.length (BSt.ns s)<99990/\(0<=(↑i:Int)/\(↑i:Int)<2)/\M10.SK (BSt.ns s) (1:Int) v)/\∀(h2_1:Heap)(ns2:List Nd)(st2:Int),BE h2 id s h2_1 ns2 st2 (3:Nat)->aF h2_1 id fun(r14:List IV)=>aK .i64 r14 5 fun n15=> ∃(p:PSt),bI h2_1 id p (23:Int) (↑i:Int) 2 [iI n15,iI v]/\∀(v:Int)(h2:Heap),aQ h2_1 id p (23:Int) (↑i:Int) v h2->Q (c1S v) h2)) (aM (k==5) (aC (e6Z ks) (aK .i64 (aW ks) 0 fun n16=>aK .i64 (aW ks) 1 fun n17=>bZ (aW ks) 2 fun(s18:List UInt8)=>aK .i64 (aW ks) 3 fun n19=>bH 5 (aW ks) 4 fun(i20:Option Nat)(e21 l22:Nat)(c23:List IV)=> ∃(ks_1:List E),∃(s:BSt),(l22=ks_1.length/\c23=aW ks_1)/\ExPre h id s dd n16 n17 s18 n19 ks_1/\∀(v:Int)(h2:Heap),dR h id s (E.mk n16 n17 s18 n19 ks_1) v h2->aF h2 id fun r24=>aK .i64 r24 5 fun n25=>aC (true&&decide (1< (↑ks.length:Int))) (aK .i64 (aW ks) 5 fun n26=>aK .i64 (aW ks) 6 fun n27=>bZ (aW ks) 7 fun(s28:List UInt8)=>aK .i64 (aW ks) 8 fun n29=>bH 5 (aW ks) 9 fun(i30:Option Nat)(e31 l32:Nat)(c33:List IV)=> ∃(ks_2:List E),∃(s:BSt),(l32=ks_2.length/\c33=aW ks_2)/\ExPre h2 id s dd n26 n27 s28 n29 ks_2/\∀(v_1:Int)(h2_1:Heap),dR h2 id s (E.mk n26 n27 s28 n29 ks_2) v_1 h2_1->aF h2_1 id fun r34=>aK .i64 r34 5 fun n35=>aF h2_1 id fun r36=>aC (Nat.ble 6 r36.length) (aC (true&&decide (2< (↑ks.length:Int))) (aK .i64 (aW ks) 10 fun n37=>aK .i64 (aW ks) 11 fun n38=>bZ (aW ks) 12 fun(s39:List UInt8)=>aK .i64 (aW ks) 13 fun n40=>bH 5 (aW ks) 14 fun(i41:Option Nat)(e42 l43:Nat)(c44:List IV)=> ∃(ks:List E),∃(s:BSt),(l43=ks.length/\c44=aW ks)/\ExPre (h2_1.set id (f5S n25 r36)) id s dd n37 n38 s39 n40 ks/\∀(v_2:Int)(h2:Heap),dR (h2_1.set id (f5S n25 r36)) id s (E.mk n37 n38 s39 n40 ks) v_2 h2-> ∃(s:BSt),∃(t:Int),(BH h2 id s/\GS s/\List.length (BSt.ns s)<99990/\M10.SK (BSt.ns s) (1:Int) v/\(t=1\/t=2)/\M10.SK (BSt.ns s) t v_1/\M10.SK (BSt.ns s) t v_2)/\∀(v_3:Int)(h2_2:Heap)(ns2:List Nd),BE h2 id s h2_2 ns2 (BSt.st s) (1:Nat)->M10.SK ns2 t v_3->aF h2_2 id fun r45=>aK .i64 r45 5 fun n46=> ∃(s:BSt),∃(t:Int),(BH h2_2 id s/\GS s/\List.length (BSt.ns s)<99990/\M10.SK (BSt.ns s) (1:Int) v/\(t=1\/t=2)/\M10.SK (BSt.ns s) t n35/\M10.SK (BSt.ns s) t n46)/\∀(v:Int)(h2:Heap)(ns2:List Nd),BE h2_2 id s h2 ns2 (BSt.st s) (1:Nat)->M10.SK ns2 t v->aF h2 id fun r47=>aC (Nat.ble 6 r47.length) (Q (.int .i64 v_3) (h2.set id (IObj.cells (List.take 5 r47++ [iI v]++List.drop 6 r47))))))))) (aC (e6Z ks) (aK .i64 (aW ks) 0 fun n48=>aK .i64 (aW ks) 1 fun n49=>bZ (aW ks) 2 fun(s50:List UInt8)=>aK .i64 (aW ks) 3 fun n51=>bH 5 (aW ks) 4 fun(i52:Option Nat)(e53 l54:Nat)(c55:List IV)=> ∃(ks_1:List E),∃(s:BSt),(l54=ks_1.length/\c55=aW ks_1)/\ExPre h id s dd n48 n49 s50 n51 ks_1/\∀(v:Int)(h2:Heap),dR h id s (E.mk n48 n49 s50 n51 ks_1) v h2->aM ((↑ks.length:Int)==1) (∃(p:PSt),bI h2 id p op (0:Int) 1 [iI v]/\∀(v:Int)(h2_1:Heap),aQ h2 id p op (0:Int) v h2_1->Q (c1S v) h2_1) (aC (true&&decide ((1:Int)< (↑ks.length:Int))) (aK .i64 (aW ks) 5 fun n56=>aK .i64 (aW ks) 6 fun n57=>bZ (aW ks) 7 fun(s58:List UInt8)=>aK .i64 (aW ks) 8 fun n59=>bH 5 (aW ks) 9 fun(i60:Option Nat)(e61 l62:Nat)(c63:List IV)=> ∃(ks:List E),∃(s:BSt),(l62=ks.length/\c63=aW ks)/\ExPre h2 id s dd n56 n57 s58 n59 ks/\∀(v_1:Int)(h2_1:Heap),dR h2 id s (E.mk n56 n57 s58 n59 ks) v_1 h2_1->aM (op==7) (∃(p:PSt),bI h2_1 id p (1:Int) (0:Int) (0:Nat) []/\∀(v_2:Int)(h2:Heap),aQ h2_1 id p (1:Int) (0:Int) v_2 h2-> ∃(p:PSt),bI h2 id p (16:Int) (0:Int) 2 [iI v_1,iI v_2]/\∀(v_3:Int)(h2_2:Heap),aQ h2 id p (16:Int) (0:Int) v_3 h2_2->aF h2_2 id fun(r64:List IV)=>aK .i64 r64 5 fun n65=> ∃(p:PSt),bI h2_2 id p (27:Int) (1:Int) 2 [iI n65,iI v_3]/\∀(v_4:Int)(h2:Heap),aQ h2_2 id p (27:Int) (1:Int) v_4 h2->aF h2 id fun r66=>aC (Nat.ble (6:Nat) r66.length) (∃(p:PSt),bI (h2.set id (f5T v_4 r66)) id p op (0:Int) 2 [iI v,iI v_1]/\∀(v:Int)(h2_3:Heap),aQ (h2.set id (f5T v_4 r66)) id p op (0:Int) v h2_3->Q (c1S v) h2_3)) (aM (op==8) (∃(p:PSt),bI h2_1 id p (1:Int) (0:Int) (0:Nat) []/\∀(v_2:Int)(h2:Heap),aQ h2_1 id p (1:Int) (0:Int) v_2 h2-> ∃(p:PSt),bI h2 id p (16:Int) (0:Int) 2 [iI v_1,iI v_2]/\∀(v_3:Int)(h2_2:Heap),aQ h2 id p (16:Int) (0:Int) v_3 h2_2->aF h2_2 id fun r67=>aK .i64 r67 5 fun n68=> ∃(p:PSt),bI h2_2 id p (27:Int) (1:Int) 2 [iI n68,iI v_3]/\∀(v_4:Int)(h2:Heap),aQ h2_2 id p (27:Int) (1:Int) v_4 h2->aF h2 id fun(r69:List IV)=>aC (Nat.ble 6 r69.length) (∃(p:PSt),bI (h2.set id (f5U v_4 r69)) id p op (0:Int) 2 [iI v,iI v_1]/\∀(v:Int)(h2_3:Heap),aQ (h2.set id (f5U v_4 r69)) id p op (0:Int) v h2_3->Q (c1S v) h2_3)) (∃(p:PSt),bI h2_1 id p op (0:Int) 2 [iI v,iI v_1]/\∀(v:Int)(h2:Heap),aQ h2_1 id p op (0:Int) v h2->Q (c1S v) h2)))))))))):=by kernel_rfl
theorem g7L: ∀d xs h Q,d8I d xs h Q->aU env 79 xs h Q:=by
 intro d
 induction d with
 |zero=>
  intro xs h Q hk;unfold d8I at hk;split at hk
  ·rename_i id k n nm op m c;obtain⟨ks,s,⟨rfl,rfl⟩,hx,hk⟩:=hk;have hz:=hx.dp;omega
  ·exact hk.elim
 |succ dd ih=>
  intro xs h Q hk;unfold d8I at hk;split at hk
  ·rename_i id k n nm op m c;obtain⟨ks,s,⟨rfl,rfl⟩,hx,hk⟩:=hk;refine aS (aI ih (f0D)) (g7K dd id k n nm op ks h Q) ?_;delta e6Z c1S f5S f5T f5U iI;obtain⟨hb,hg,hw,hd,hc⟩:=hx;have h5:=hg.hn;have hn:a6Y s.f k n nm op ks.length:=hw.1;have hwk:Es.wf s.f ks:=hw.2;obtain⟨lv,hgl⟩:=(BE.refl hb hg).get;unfold a6Y at hn;rcases hn with⟨rfl,rfl,rfl,hl,hi⟩| ⟨rfl,rfl,rfl,hl,hnm⟩| ⟨rfl,rfl,rfl,hl,hnm⟩| ⟨rfl,rfl,rfl,ho⟩| ⟨rfl,rfl,rfl,rfl,hl⟩
   ·refine bt rfl ⟨s.pst [],hb.pre hg ⟨by decide,hi⟩ kb0 (by decide),fun v h2 p=>?_⟩;have hE:E.cost (.mk 1 n [] 0 ks)=4+Es.cost ks:=E.cost4 (by decide);obtain⟨x1,k1⟩:=BE.put (ss:=[]) (t:=1) hb hg p trivial eJ (by decide) ⟨by decide,by decide⟩ ⟨by decide,hi⟩ (by decide) (by omega);exact hk v h2 ⟨_,_,x1.le (by omega),k1⟩
   ·have hb':=hb;obtain⟨_,_,b4,b5,b6⟩:=hb';refine bf rfl (bt rfl (aB hgl (cZ rfl ⟨s,⟨hb,hnm⟩,fun i hi=>⟨rfl,?_⟩⟩)));have hlt:i<s.vs.length:=by rw [hg.vl];exact hi
    refine aP (by dsimp only;omega) (aB b6 (bV (n:=s.vs[i]) (by rw [h1Q,h0Z,h1W,h2A,h0U hlt];rfl) (hk _ _ ⟨s.ns,s.st,(BE.refl hb hg).le (h1N _),hg.av _ (h1B hlt)⟩)))
   ·obtain⟨e1,rfl⟩: ∃e,ks=[e]:=by
     match ks,hl with
     | [e],_=>exact⟨e,rfl⟩
    obtain⟨k1,n1,m1,o1,q1⟩:=e1;have hE:E.cost (.mk 3 0 nm 0 [E.mk k1 n1 m1 o1 q1])=4+Es.cost [E.mk k1 n1 m1 o1 q1]:=E.cost4 (by decide);have hcost:Es.cost [E.mk k1 n1 m1 o1 q1]=E.cost (E.mk k1 n1 m1 o1 q1):=by simp only [Es.cost];omega
    have hdp:1+Es.dp q1<=Es.dp [E.mk k1 n1 m1 o1 q1]:=Es.dp_mem (e:=E.mk k1 n1 m1 o1 q1) h2C;refine bf rfl (bf rfl (bt rfl (aA rfl (bV rfl (bV rfl (hU rfl (bV rfl (dY rfl ⟨q1,s,⟨rfl,rfl⟩,⟨hb,hg,hwk.1,by omega,by omega⟩,fun v h2 p=>?_⟩))))))));obtain⟨nsA,stA,xA,kA⟩:=p;have nA:=xA.len;refine⟨_,⟨xA.bh,xA.gs.pp,hnm⟩,fun a ha=>⟨_,⟨xA.bh,xA.gs,by show nsA.length<99990;omega,by omega,kA⟩,fun h3 nsB stB xB=>?_⟩⟩;have y:=xA.trans xB;have nB:=y.len;obtain⟨lvB,hgB⟩:=y.get;have hsB:=y.gs.sk;have kB:=kA.mono xB.gx.pre;refine aB hgB (bV rfl ⟨({s with ns:=nsB,st:=stB } :BSt).pst [stB,v],y.bh.pre y.gs ⟨by decide,by unfold bR;omega⟩ (kb2 hsB.kb kB.kb) (by show 2<=40;decide),fun v2 h4 p2=>?_⟩);obtain⟨x2,k2⟩:=BE.put (ss:=[2,1]) (t:=1) y.bh y.gs p2 ⟨⟨hsB,by decide⟩,⟨kB,by decide⟩,trivial⟩ (e5X (by omega)) (by decide) ⟨by decide,by decide⟩ ⟨by decide,by unfold bR;omega⟩ (by show 2<=40;decide) (by show nsB.length<100000;omega);exact hk _ _ ⟨_,_,(y.trans x2).le (by omega),k2⟩
   ·have hl:ks.length=2\/ks.length=1:=by omega
    rcases hl with hl|hl
    ·obtain⟨e1,e2,rfl⟩: ∃e f,ks=[e,f]:=by
      match ks,hl with
      | [e,f],_=>exact⟨e,f,rfl⟩
     obtain⟨k1,n1,m1,o1,q1⟩:=e1;obtain⟨k2,n2,m2,o2,q2⟩:=e2;have hop:4<=op/\op<=18:=by
      rcases ho with h|h
      ·exact h.2
      ·exact absurd h.1 (by simp)
     have hE:E.cost (.mk 4 0 [] op [E.mk k1 n1 m1 o1 q1,E.mk k2 n2 m2 o2 q2])=4+Es.cost [E.mk k1 n1 m1 o1 q1,E.mk k2 n2 m2 o2 q2]:=E.cost4 (by decide);have hcost:Es.cost [E.mk k1 n1 m1 o1 q1,E.mk k2 n2 m2 o2 q2]=E.cost (E.mk k1 n1 m1 o1 q1)+E.cost (E.mk k2 n2 m2 o2 q2):=by simp only [Es.cost];omega
     have hdp:1+Es.dp q1<=Es.dp [E.mk k1 n1 m1 o1 q1,E.mk k2 n2 m2 o2 q2]:=Es.dp_mem (e:=E.mk k1 n1 m1 o1 q1) h2C;have hdp2:1+Es.dp q2<=Es.dp [E.mk k1 n1 m1 o1 q1,E.mk k2 n2 m2 o2 q2]:=Es.dp_mem (e:=E.mk k2 n2 m2 o2 q2) (h2N _ h2C);refine bf rfl (bf rfl (bf rfl (bf rfl (aA rfl (bV rfl (bV rfl (hU rfl (bV rfl (dY rfl ⟨q1,s,⟨rfl,rfl⟩,⟨hb,hg,hwk.1,by omega,by omega⟩,fun v h2 p=>?_⟩)))))))));obtain⟨nsA,stA,xA,kA⟩:=p;have nA:=xA.len;refine bf rfl (aA rfl (bV rfl (bV rfl (hU rfl (bV rfl (dY rfl ⟨q2,({s with ns:=nsA,st:=stA } :BSt),⟨rfl,rfl⟩,⟨xA.bh,xA.gs,hwk.2.1,by omega,by show nsA.length+_<=90000;omega⟩,fun v2 h3 p=>?_⟩))))));obtain⟨nsB,stB,xB,kB⟩:=p;have y:=xA.trans xB;have nB:=y.len;obtain⟨lvB,hgB⟩:=y.get;have hsB:=y.gs.sk;have kA2:=kA.mono xB.gx.pre;have ob:bR op:=by unfold bR;omega
     refine aD (fun c=>?_) (fun _=>aD (fun c=>?_) (fun _=>?_))
     ·refine⟨_,y.bh.pre y.gs ⟨by decide,by decide⟩ (kb0) (by show 0<=40;decide),fun v3 h4 p=>?_⟩;obtain⟨nsx3,x3,k3⟩:=BE.putE (ss:=[]) (t:=1) y.bh y.gs p (trivial) (eJ) (by decide) ⟨by decide,by decide⟩ ⟨by decide,by decide⟩ (by show 0<=40;decide) (by show nsB.length<100000;omega);have y3:=y.trans x3;have ny3:=y3.len;have kA3:=kA2.mono x3.gx.pre;have kB3:=kB.mono x3.gx.pre;refine⟨_,y3.bh.pre y3.gs ⟨by decide,by decide⟩ (kb2 kB3.kb k3.kb) (by show 2<=40;decide),fun v4 h5 p=>?_⟩;obtain⟨nsx4,x4,k4⟩:=BE.putE (ss:=[1,1]) (t:=1) y3.bh y3.gs p (⟨⟨kB3,by decide⟩,⟨k3,by decide⟩,trivial⟩) (zI (by decide)) (by decide) ⟨by decide,by decide⟩ ⟨by decide,by decide⟩ (by show 2<=40;decide) (by show nsx3.length<100000;omega);have y4:=y3.trans x4;have ny4:=y4.len;have kA4:=kA3.mono x4.gx.pre;have kB4:=kB3.mono x4.gx.pre;have hs4:=y4.gs.sk;obtain⟨lv4,hg4⟩:=y4.get;refine aB hg4 (bV rfl ?_);refine⟨_,y4.bh.pre y4.gs ⟨by decide,by decide⟩ (kb2 hs4.kb k4.kb) (by show 2<=40;decide),fun v5 h6 p=>?_⟩;obtain⟨nsx5,x5,k5⟩:=BE.putE (ss:=[2,1]) (t:=2) y4.bh y4.gs p (⟨⟨hs4,by decide⟩,⟨k4,by decide⟩,trivial⟩) (xJ (by decide)) (by decide) ⟨by decide,by decide⟩ ⟨by decide,by decide⟩ (by show 2<=40;decide) (by show nsx4.length<100000;omega);have y5:=y4.trans x5;have ny5:=y5.len;have kA5:=kA4.mono x5.gx.pre;have kB5:=kB4.mono x5.gx.pre;obtain⟨lv5,hg5⟩:=y5.get;refine aB hg5 (aA rfl ?_);have y6:=y5.st k5 hg5;refine⟨_,y6.bh.pre y6.gs ⟨ob,by decide⟩ (kb2 kA5.kb kB5.kb) (by show 2<=40;decide),fun v7 h8 p=>?_⟩;obtain⟨nsx7,x7,k7⟩:=BE.putE (ss:=[1,1]) (t:=1) y6.bh y6.gs p (⟨⟨kA5,by decide⟩,⟨kB5,by decide⟩,trivial⟩) (zI (by omega)) (by decide) ⟨by omega,by omega⟩ ⟨ob,by decide⟩ (by show 2<=40;decide) (by show nsx5.length<100000;omega);have y7:=y6.trans x7;have ny7:=y7.len;exact hk _ _ ⟨_,_,y7.le (by omega),k7⟩
     ·refine⟨_,y.bh.pre y.gs ⟨by decide,by decide⟩ (kb0) (by show 0<=40;decide),fun v3 h4 p=>?_⟩;obtain⟨nsx3,x3,k3⟩:=BE.putE (ss:=[]) (t:=1) y.bh y.gs p (trivial) (eJ) (by decide) ⟨by decide,by decide⟩ ⟨by decide,by decide⟩ (by show 0<=40;decide) (by show nsB.length<100000;omega);have y3:=y.trans x3;have ny3:=y3.len;have kA3:=kA2.mono x3.gx.pre;have kB3:=kB.mono x3.gx.pre;refine⟨_,y3.bh.pre y3.gs ⟨by decide,by decide⟩ (kb2 kB3.kb k3.kb) (by show 2<=40;decide),fun v4 h5 p=>?_⟩;obtain⟨nsx4,x4,k4⟩:=BE.putE (ss:=[1,1]) (t:=1) y3.bh y3.gs p (⟨⟨kB3,by decide⟩,⟨k3,by decide⟩,trivial⟩) (zI (by decide)) (by decide) ⟨by decide,by decide⟩ ⟨by decide,by decide⟩ (by show 2<=40;decide) (by show nsx3.length<100000;omega);have y4:=y3.trans x4;have ny4:=y4.len;have kA4:=kA3.mono x4.gx.pre;have kB4:=kB3.mono x4.gx.pre;have hs4:=y4.gs.sk;obtain⟨lv4,hg4⟩:=y4.get;refine aB hg4 (bV rfl ?_);refine⟨_,y4.bh.pre y4.gs ⟨by decide,by decide⟩ (kb2 hs4.kb k4.kb) (by show 2<=40;decide),fun v5 h6 p=>?_⟩;obtain⟨nsx5,x5,k5⟩:=BE.putE (ss:=[2,1]) (t:=2) y4.bh y4.gs p (⟨⟨hs4,by decide⟩,⟨k4,by decide⟩,trivial⟩) (xJ (by decide)) (by decide) ⟨by decide,by decide⟩ ⟨by decide,by decide⟩ (by show 2<=40;decide) (by show nsx4.length<100000;omega);have y5:=y4.trans x5;have ny5:=y5.len;have kA5:=kA4.mono x5.gx.pre;have kB5:=kB4.mono x5.gx.pre;obtain⟨lv5,hg5⟩:=y5.get;refine aB hg5 (aA rfl ?_);have y6:=y5.st k5 hg5;refine⟨_,y6.bh.pre y6.gs ⟨ob,by decide⟩ (kb2 kA5.kb kB5.kb) (by show 2<=40;decide),fun v7 h8 p=>?_⟩;obtain⟨nsx7,x7,k7⟩:=BE.putE (ss:=[1,1]) (t:=1) y6.bh y6.gs p (⟨⟨kA5,by decide⟩,⟨kB5,by decide⟩,trivial⟩) (zI (by omega)) (by decide) ⟨by omega,by omega⟩ ⟨ob,by decide⟩ (by show 2<=40;decide) (by show nsx5.length<100000;omega);have y7:=y6.trans x7;have ny7:=y7.len;exact hk _ _ ⟨_,_,y7.le (by omega),k7⟩
     ·refine⟨_,y.bh.pre y.gs ⟨ob,by decide⟩ (kb2 kA2.kb kB.kb) (by show 2<=40;decide),fun v7 h8 p=>?_⟩;obtain⟨nsx7,x7,k7⟩:=BE.putE (ss:=[1,1]) (t:=1) y.bh y.gs p (⟨⟨kA2,by decide⟩,⟨kB,by decide⟩,trivial⟩) (zI (by omega)) (by decide) ⟨by omega,by omega⟩ ⟨ob,by decide⟩ (by show 2<=40;decide) (by show nsB.length<100000;omega);have y7:=y.trans x7;have ny7:=y7.len;exact hk _ _ ⟨_,_,y7.le (by omega),k7⟩
    ·obtain⟨e1,rfl⟩: ∃e,ks=[e]:=by
      match ks,hl with
      | [e],_=>exact⟨e,rfl⟩
     obtain⟨k1,n1,m1,o1,q1⟩:=e1;have hop:op=20\/op=21:=by
      rcases ho with h|h
      ·exact absurd h.1 (by simp)
      ·omega
     have hE:E.cost (.mk 4 0 [] op [E.mk k1 n1 m1 o1 q1])=4+Es.cost [E.mk k1 n1 m1 o1 q1]:=E.cost4 (by decide);have hcost:Es.cost [E.mk k1 n1 m1 o1 q1]=E.cost (E.mk k1 n1 m1 o1 q1):=by simp only [Es.cost];omega
     have hdp:1+Es.dp q1<=Es.dp [E.mk k1 n1 m1 o1 q1]:=Es.dp_mem (e:=E.mk k1 n1 m1 o1 q1) h2C;have ob:bR op:=by unfold bR;omega
     refine bf rfl (bf rfl (bf rfl (bf rfl (aA rfl (bV rfl (bV rfl (hU rfl (bV rfl (dY rfl ⟨q1,s,⟨rfl,rfl⟩,⟨hb,hg,hwk.1,by omega,by omega⟩,fun v h2 p=>?_⟩)))))))));obtain⟨nsA,stA,xA,kA⟩:=p;have nA:=xA.len;refine bt rfl ?_;refine⟨_,xA.bh.pre xA.gs ⟨ob,by decide⟩ (kb1 kA.kb) (by show 1<=40;decide),fun v7 h8 p=>?_⟩;obtain⟨nsx7,x7,k7⟩:=BE.putE (ss:=[1]) (t:=1) xA.bh xA.gs p (⟨⟨kA,by decide⟩,trivial⟩) (g1C hop) (by decide) ⟨by omega,by omega⟩ ⟨ob,by decide⟩ (by show 1<=40;decide) (by show nsA.length<100000;omega);have y7:=xA.trans x7;have ny7:=y7.len;exact hk _ _ ⟨_,_,y7.le (by omega),k7⟩
   ·obtain⟨e1,e2,e3,rfl⟩: ∃e f g,ks=[e,f,g]:=by
     match ks,hl with
     | [e,f,g],_=>exact⟨e,f,g,rfl⟩
    obtain⟨k1,n1,m1,o1,q1⟩:=e1;obtain⟨k2,n2,m2,o2,q2⟩:=e2;obtain⟨k3,n3,m3,o3,q3⟩:=e3;have hE:E.cost (.mk 5 0 [] 0 [E.mk k1 n1 m1 o1 q1,E.mk k2 n2 m2 o2 q2,E.mk k3 n3 m3 o3 q3])=4+Es.cost [E.mk k1 n1 m1 o1 q1,E.mk k2 n2 m2 o2 q2,E.mk k3 n3 m3 o3 q3]:=E.cost4 (by decide);have hcost:Es.cost [E.mk k1 n1 m1 o1 q1,E.mk k2 n2 m2 o2 q2,E.mk k3 n3 m3 o3 q3]=E.cost (E.mk k1 n1 m1 o1 q1)+E.cost (E.mk k2 n2 m2 o2 q2)+E.cost (E.mk k3 n3 m3 o3 q3):=by simp only [Es.cost];omega
    have hdp:1+Es.dp q1<=Es.dp [E.mk k1 n1 m1 o1 q1,E.mk k2 n2 m2 o2 q2,E.mk k3 n3 m3 o3 q3]:=Es.dp_mem (e:=E.mk k1 n1 m1 o1 q1) h2C;have hdp2:1+Es.dp q2<=Es.dp [E.mk k1 n1 m1 o1 q1,E.mk k2 n2 m2 o2 q2,E.mk k3 n3 m3 o3 q3]:=Es.dp_mem (e:=E.mk k2 n2 m2 o2 q2) (h2N _ h2C);have hdp3:1+Es.dp q3<=Es.dp [E.mk k1 n1 m1 o1 q1,E.mk k2 n2 m2 o2 q2,E.mk k3 n3 m3 o3 q3]:=Es.dp_mem (e:=E.mk k3 n3 m3 o3 q3) (h2N _ (h2N _ h2C));refine bf rfl (bf rfl (bf rfl (bt rfl (aA rfl (bV rfl (bV rfl (hU rfl (bV rfl (dY rfl ⟨q1,s,⟨rfl,rfl⟩,⟨hb,hg,hwk.1,by omega,by omega⟩,fun v h2 p=>?_⟩)))))))));obtain⟨nsA,stA,xA,kA⟩:=p;have nA:=xA.len;obtain⟨lvA,hgA⟩:=xA.get;have hsA:=xA.gs.sk;refine aB hgA (bV rfl (aA rfl (bV rfl (bV rfl (hU rfl (bV rfl (dY rfl ⟨q2,({s with ns:=nsA,st:=stA } :BSt),⟨rfl,rfl⟩,⟨xA.bh,xA.gs,hwk.2.1,by omega,by show nsA.length+_<=90000;omega⟩,fun v2 h3 p=>?_⟩)))))));obtain⟨nsB,stB,xB,kB⟩:=p;have y:=xA.trans xB;have nB:=y.len;obtain⟨lvB,hgB⟩:=y.get;have hsB:=y.gs.sk;have kA2:=kA.mono xB.gx.pre;have y2:=y.st (hsA.mono xB.gx.pre) hgB;refine aB hgB (bV rfl (aB hgB (aA rfl (aA rfl (bV rfl (bV rfl (hU rfl (bV rfl (dY rfl ⟨q3,({s with ns:=nsB,st:=stA } :BSt),⟨rfl,rfl⟩,⟨y2.bh,y2.gs,hwk.2.2.1,by omega,by show nsB.length+_<=90000;omega⟩,fun v3 h4 p=>?_⟩)))))))));obtain⟨nsC,stC,xC,kC⟩:=p;have y3:=y2.trans xC;have nC:=y3.len;have hsC:=y3.gs.sk;have pC:=xC.gx.pre;refine⟨({s with ns:=nsC,st:=stC } :BSt),1,⟨y3.bh,y3.gs,by show nsC.length<99990;omega,kA2.mono pC,.inl rfl,kB.mono pC,kC⟩,fun v4 h5 nsD xD kD=>?_⟩;have y4:=y3.trans xD;have nD:=y4.len;obtain⟨lvD,hgD⟩:=y4.get;have pD:=xD.gx.pre;refine aB hgD (bV rfl ⟨({s with ns:=nsD,st:=stC } :BSt),2,⟨y4.bh,y4.gs,by show nsD.length<99990;omega,(kA2.mono pC).mono pD,.inr rfl,(hsB.mono pC).mono pD,hsC.mono pD⟩,fun v5 h6 nsE xE kE=>?_⟩);have y5:=y4.trans xE;obtain⟨lvE,hgE⟩:=y5.get;exact aB hgE (aA rfl (hk _ _ ⟨_,_,(y5.st kE hgE).le (by omega),kD.mono xE.gx.pre⟩))
  ·exact hk.elim
def f5V:=bB 79 (fun xs h K=> ∃d,d8I d xs h K) f5R
theorem f0E:aT env f5V:=aI (fun xs h Q hk=>hk.elim fun d hk=>g7L d xs h Q hk) (f0D)
end Go.Proofs.YtkonebkblgemkaaGreat
end
end
