/-
  Texts of this proof, one after the other.
  Conditions: none.
-/
import Derived.Test.YtkonebkblgemkaaGreatW12
set_option linter.unusedVariables false
set_option linter.unusedSimpArgs false
set_option maxRecDepth 100000
set_option maxHeartbeats 4000000
noncomputable section
variable{i j m b:Nat}{x y z u v:Int}{h g:Go.Pv.Heap}{c d l:List Go.Pv.IV}{A B C:List Go.M15.Nd}{K L:Y12}{s t:Go.Pv.IV}{F:List Go.M10.E}{D:Go.Pv.Meta}{V W:List Go.Value}{T U:Go.TypeId}{o:Bool}{X Y:Go.Value}{r:Y11}{G:Go.M10.BSt}{O:Go.Oper}{N:Y10}{H:Array Go.Value}
section
namespace Go.Proofs.YtkonebkblgemkaaGreat
open Go.Pv Go.M13
theorem a6E(c:Int):fM .i64 c 63=c%64:=b7U c
def f1Q:Y11:=(List.range 256).map λi=>UInt8.ofNat (gH i)
theorem d1F: ∀i:Fin 256,f1Q[(i:Nat)]?=some (UInt8.ofNat (gH i))/\(UInt8.ofNat (gH i)).toNat=gH i:=by decide+kernel
theorem c0K{y:Int}{k:Int}{n:Nat}(r:0<=y)(u:y<256)(hk:0<=k/\k<=56)(e:(gH n:Int)=k+gH y.toNat){Q:KT}{h:Heap}(j:Q (.int .i64 (gH n)) h)(tab:Y11)(l:tab=f1Q):
  aF (decide ((0:Int)<=IntKind.wrap IntKind.u8 y)) (b7A tab ((IntKind.wrap IntKind.u8 y).toNat) λc=>Q (IV.int IntKind.i64 (IntKind.wrap IntKind.i64 (k+IntKind.wrap IntKind.i64 c))) h):=by
 have m:IntKind.u8.wrap y=y:=by
  unfold IntKind.wrap
  simp [IntKind.bits,IntKind.signed];omega
 rw [m];refine aA (by simp [r]) ?_;obtain⟨g,i⟩:=d1F ⟨y.toNat,JZ⟩;unfold b7A
 simp only at g i;rw [l];rw [g];show Q (IV.int IntKind.i64 (IntKind.wrap IntKind.i64 (k+IntKind.wrap IntKind.i64 ((UInt8.ofNat (gH y.toNat)).toNat:Int)))) h;rw [i];have z:gH y.toNat<=8:=Pi (show y.toNat<2^8 by omega);rw [AA (gH y.toNat:Int) JZ,AA _ JZ,<-e];exact j
theorem Nl{a b c d:Int}(h:c<1):zZ a b c d=(dH,dN):=by
 unfold zZ
 rw [if_pos h]
theorem b4R(x y:Int):(if(dM x&&dM y)=true then(IntKind.i64.wrap x,IntKind.i64.wrap y)else(dH,dN))=Cq x y:=by
 unfold Cq
 split
 .rename_i h;simp only [AE]at h;rw [eL h.1,eL h.2]
 .rfl
def a3G(xs:Y14)(h:Heap)(K:KT):Prop:=match xs with
 | [.agg [.int .i64 a,.int .i64 b]]=>K (.bool (decide (a<=b))) h
 |_=>False
theorem e5B(a b:Int)(h:Heap)(Q:KT):dF (aU Ct) env 58 cC bD bD [.agg [.int .i64 a,.int .i64 b]] h Q=(
 Q (.bool (decide (a<=b))) h):=by kernel_rfl
theorem e3O: ∀xs h Q,a3G xs h Q->aM env 58 xs h Q:=by
 intro xs h Q hk;unfold a3G at hk;split at hk
 .rename_i a b;refine aL (Nz) (e5B a b h Q) ?_;exact hk
 .exact hk.elim
def a1J:=aV 58 a3G Ct
theorem a8P:aS env a1J:=aE e3O (Nz)
def b8I(xs:Y14)(h:Heap)(K:KT):Prop:=match xs with
 | [.agg [.int .i64 a,.int .i64 b],.agg [.int .i64 c,.int .i64 d]]=>K (.agg [.int .i64 (min a c),.int .i64 (max b d)]) h
 |_=>False
theorem f2E(a b c d:Int)(h:Heap)(Q:KT):dF (aU a1J) env 102 cC bD bD [.agg [.int .i64 a,.int .i64 b],.agg [.int .i64 c,.int .i64 d]] h Q=(
 Q (.agg [.int .i64 (if c<a then c else a),iI (if d>b then d else b)]) h):=by kernel_rfl
theorem e9O: ∀xs h Q,b8I xs h Q->aM env 102 xs h Q:=by
 intro xs h Q hk;unfold b8I at hk;split at hk
 .rename_i a b c d;refine aL (a8P) (f2E a b c d h Q) ?_;delta iI
  repeat' (first|refine aA ?_ ?_|refine aB (λ_=>?_) (λ_=>?_)|refine And.intro ?_ ?_)
  all_goals first|assumption|omega| (refine bN hk ?_;simp only [IV.agg.injEq,IV.tuple.injEq,IV.int.injEq,IV.bool.injEq,BE,true_and,and_true];grind [])
 .exact hk.elim
def b5D:=aV 102 b8I a1J
theorem c1G:aS env b5D:=aE e9O (a8P)
def V6(xs:Y14)(h:Heap)(K:KT):Prop:=match xs with
 | [.agg [.int .i64 a,.int .i64 b],.int .i64 n]=>K (.bool (contains a b n)) h
 |_=>False
theorem b3B(a b n:Int)(h:Heap)(Q:KT):dF (aU b5D) env 121 cC bD bD [.agg [.int .i64 a,.int .i64 b],.int .i64 n] h Q=(
 aK (decide (n>=a)) (Q (.bool (decide (n<=b))) h) (Q (.bool false) h)):=by kernel_rfl
theorem b2O: ∀xs h Q,V6 xs h Q->aM env 121 xs h Q:=by
 intro xs h Q hk;unfold V6 at hk;split at hk
 .rename_i a b n;refine aL (c1G) (b3B a b n h Q) ?_
  repeat' (first|refine aA ?_ ?_|refine aB (λ_=>?_) (λ_=>?_)|refine And.intro ?_ ?_)
  all_goals first|assumption|omega| (refine bN hk ?_;simp only [IV.agg.injEq,IV.tuple.injEq,IV.int.injEq,IV.bool.injEq,BE,true_and,and_true];grind [contains])
 .exact hk.elim
def T9:=aV 121 V6 b5D
theorem Fa:aS env T9:=aE b2O (c1G)
def a2D(xs:Y14)(h:Heap)(K:KT):Prop:=match xs with
 | [.agg [.int .i64 a,.int .i64 b],.agg [.int .i64 c,.int .i64 d]]=>K (.tuple [.agg [.int .i64 (mM a b c d).1,.int .i64 (mM a b c d).2],.bool (iS a b c d)]) h
 |_=>False
theorem e4E(a b c d:Int)(h:Heap)(Q:KT):dF (aU T9) env 112 cC bD bD [.agg [.int .i64 a,.int .i64 b],.agg [.int .i64 c,.int .i64 d]] h Q=(
 aK (!decide ((if c>a then c else a)<=if d<b then d else b)) (Q (.tuple [.agg [.int .i64 0,iI 0],IV.bool false]) h) (Q (.tuple [.agg [.int .i64 (if c>a then c else a),iI (if d<b then d else b)],IV.bool true]) h)):=by kernel_rfl
theorem e2N: ∀xs h Q,a2D xs h Q->aM env 112 xs h Q:=by
 intro xs h Q hk;unfold a2D at hk;split at hk
 .rename_i a b c d;refine aL (Fa) (e4E a b c d h Q) ?_;delta iI
  repeat' (first|refine aA ?_ ?_|refine aB (λ_=>?_) (λ_=>?_)|refine And.intro ?_ ?_)
  all_goals first|assumption|omega| (refine bN hk ?_;simp only [IV.agg.injEq,IV.tuple.injEq,IV.int.injEq,IV.bool.injEq,BE,true_and,and_true];grind [mM,iS])
 .exact hk.elim
def a0P:=aV 112 a2D T9
theorem a7W:aS env a0P:=aE e2N (Fa)
def a3H(xs:Y14)(h:Heap)(K:KT):Prop:=match xs with
 | [.agg [.int .i64 a,.int .i64 b],.agg [.int .i64 c,.int .i64 d]]=>K (.agg [.int .i64 (wlo a c),.int .i64 (whi b d)]) h
 |_=>False
theorem e5C(a b c d:Int)(h:Heap)(Q:KT):dF (aU a0P) env 104 cC bD bD [.agg [.int .i64 a,.int .i64 b],.agg [.int .i64 c,.int .i64 d]] h Q=(
 aK (decide (c<a)) (aK (decide (d>b)) (Q (.agg [.int .i64 (-9223372036854775808),iI 9223372036854775807]) h) (Q (.agg [.int .i64 (-9223372036854775808),iI b]) h)) (aK (decide (d>b)) (Q (.agg [.int .i64 a,iI 9223372036854775807]) h) (Q (.agg [.int .i64 a,iI b]) h))):=by kernel_rfl
theorem e3P: ∀xs h Q,a3H xs h Q->aM env 104 xs h Q:=by
 intro xs h Q hk;unfold a3H at hk;split at hk
 .rename_i a b c d;refine aL (a7W) (e5C a b c d h Q) ?_;delta iI
  repeat' (first|refine aA ?_ ?_|refine aB (λ_=>?_) (λ_=>?_)|refine And.intro ?_ ?_)
  all_goals first|assumption|omega| (refine bN hk ?_;simp only [IV.agg.injEq,IV.tuple.injEq,IV.int.injEq,IV.bool.injEq,BE,true_and,and_true];grind [wlo,whi])
 .exact hk.elim
def a1K:=aV 104 a3H a0P
theorem a8Q:aS env a1K:=aE e3P (a7W)
def b8E(xs:Y14)(h:Heap)(K:KT):Prop:=match xs with
 | []=>K (.agg [.int .i64 (-9223372036854775808),.int .i64 9223372036854775807]) h
 |_=>False
theorem f2A(h:Heap)(Q:KT):dF (aU a1K) env 105 cC bD bD [] h Q=(
 Q (.agg [.int .i64 (-9223372036854775808),iI 9223372036854775807]) h):=by kernel_rfl
theorem e9K: ∀xs h Q,b8E xs h Q->aM env 105 xs h Q:=by
 intro xs h Q hk;unfold b8E at hk;split at hk
 .skip
  refine aL (a8Q) (f2A h Q) ?_;delta iI;exact hk
 .exact hk.elim
def b4Z:=aV 105 b8E a1K
theorem c1C:aS env b4Z:=aE e9K (a8Q)
def Ru(xs:Y14)(h:Heap)(K:KT):Prop:=match xs with
 | [.int .i64 a]=>K (.agg [.int .i64 a,.int .i64 a]) h
 |_=>False
theorem d1Z(a:Int)(h:Heap)(Q:KT):dF (aU b4Z) env 168 cC bD bD [.int .i64 a] h Q=(
 Q (.agg [.int .i64 a,iI a]) h):=by kernel_rfl
theorem d0U: ∀xs h Q,Ru xs h Q->aM env 168 xs h Q:=by
 intro xs h Q hk;unfold Ru at hk;split at hk
 .rename_i a;refine aL (c1C) (d1Z a h Q) ?_;delta iI;exact hk
 .exact hk.elim
def Qd:=aV 168 Ru b4Z
theorem Xm:aS env Qd:=aE d0U (c1C)
def e0U(xs:Y14)(h:Heap)(K:KT):Prop:=match xs with
 | [.int .i64 o,.int .i64 a]=>K (.int .i64 (Yq o a)) h
 |_=>False
theorem f8V(o a:Int)(h:Heap)(Q:KT):dF (aU Qd) env 169 cC bD bD [.int .i64 o,.int .i64 a] h Q=(
 aK (o==20) (Q (.int .i64 (wW ((0:Int)-a))) h) (aK (o==21) (Q (.int .i64 (A4 .i64 (-1:Int) a)) h) (Q (.int .i64 0) h))):=by kernel_rfl
theorem f6V: ∀xs h Q,e0U xs h Q->aM env 169 xs h Q:=by
 intro xs h Q hk;unfold e0U at hk;split at hk
 .rename_i o a;refine aL (Xm) (f8V o a h Q) ?_;delta wW
  repeat' (first|refine aA ?_ ?_|refine aB (λ_=>?_) (λ_=>?_)|refine And.intro ?_ ?_)
  all_goals first|exact hk| (simp only [decide_eq_true_eq];exact lH _)| (simp_all;done)| (refine bN hk ?_;congr 1; (try simp only [beq_iff_eq,beq_eq_false_iff_ne,ne_eq]at*);unfold Yq; (repeat (first|rw [if_pos (by assumption)]|rw [if_neg (by assumption)]));first|done|rfl)
 .exact hk.elim
def d8Z:=aV 169 e0U Qd
theorem d6L:aS env d8Z:=aE f6V (Xm)
def b8Q(xs:Y14)(h:Heap)(K:KT):Prop:=match xs with
 | [.int .i64 a,.int .i64 b]=>K (.int .i64 (A0 a b)) h
 |_=>False
theorem f2L(a b:Int)(h:Heap)(Q:KT):dF (aU d8Z) env 208 cC bD bD [.int .i64 a,.int .i64 b] h Q=(
 aK (b==0) (Q (.int .i64 0) h) (aK (b==(-1:Int)) (Q (.int .i64 (wW ((0:Int)-a))) h) (aF (!b==0) (Q (.int .i64 (wW (Int.tdiv a b))) h)))):=by kernel_rfl
theorem e9X: ∀xs h Q,b8Q xs h Q->aM env 208 xs h Q:=by
 intro xs h Q hk;unfold b8Q at hk;split at hk
 .rename_i a b;refine aL (d6L) (f2L a b h Q) ?_;delta wW
  repeat' (first|refine aA ?_ ?_|refine aB (λ_=>?_) (λ_=>?_)|refine And.intro ?_ ?_)
  all_goals first|exact hk| (simp only [decide_eq_true_eq];exact lH _)| (simp_all;done)| (refine bN hk ?_;congr 1; (try simp only [beq_iff_eq,beq_eq_false_iff_ne,ne_eq]at*);unfold A0; (repeat (first|rw [if_pos (by assumption)]|rw [if_neg (by assumption)]));first|done|rfl)
 .exact hk.elim
def b5N:=aV 208 b8Q d8Z
theorem c1L:aS env b5N:=aE e9X (d6L)
def a3C(xs:Y14)(h:Heap)(K:KT):Prop:=match xs with
 | [.bool b]=>K (.int .i64 (nU b)) h
 |_=>False
theorem e5A(b:Bool)(h:Heap)(Q:KT):dF (aU b5N) env 227 cC bD bD [.bool b] h Q=(
 aK b (Q (.int .i64 1) h) (Q (.int .i64 0) h)):=by kernel_rfl
theorem e3K: ∀xs h Q,a3C xs h Q->aM env 227 xs h Q:=by
 intro xs h Q hk;unfold a3C at hk;split at hk
 .rename_i b;refine aL (c1L) (e5A b h Q) ?_
  repeat' (first|refine aA ?_ ?_|refine aB (λ_=>?_) (λ_=>?_)|refine And.intro ?_ ?_)
  all_goals (refine bN hk ?_;simp_all [nU])
 .exact hk.elim
def a1G:=aV 227 a3C b5N
theorem a8M:aS env a1G:=aE e3K (c1L)
def a2Z(xs:Y14)(h:Heap)(K:KT):Prop:=match xs with
 | [.int .i64 o,.int .i64 a,.int .i64 b]=>K (.int .i64 (A8 o a b)) h
 |_=>False
def lY(g:Int):Bool:=decide (0<=IntKind.wrap .u64 g)
def Zn(b:Int):=lY (fM .i64 b 63)
def lX(g:Int):Nat:=(IntKind.wrap .u64 (fM .i64 g 63)).toNat
def zP(o:Int)(Q:KT)(h:Heap)(g:Int)(i:Int)(j:Int)(l:Int)(m:Int)(r:Prop)(u:Prop):Prop:=aK (o==g) (Q (.int .i64 i) h) (aK (o==j) (Q (.int .i64 l) h) (aK (o==m) r u))
def Cd(o:Int)(b:Int)(Q:KT)(a:Int)(h:Heap):Prop:=aK (o==12) (aF (Zn b) (Q (.int .i64 (wW (a*(2:Int) ^min (lX b) 64))) h)) (aK (o==13) (aF (Zn b) (Q (.int .i64 (wW (Int.fdiv (IntKind.wrap .u64 a) ((2:Int) ^min (lX b) 64)))) h)) (aK (o==14) (aF (Zn b) (Q (.int .i64 (Int.fdiv a ((2:Int) ^
 min (lX b) 64))) h)) (zP o Q h 15 (nU (a==b)) 16 (nU (a !=b)) 17 (Q (.int .i64 (nU (decide (a<b)))) h) (aK (o==18) (Q (.int .i64 (nU (decide (a<=b)))) h) (aK (o==19) (Q (.int .i64 (nU (decide (IntKind.wrap .u64 a<IntKind.wrap .u64
 b)))) h) (Q (.int .i64 0) h))))))
theorem e4W(o a b:Int)(h:Heap)(Q:KT):dF (aU a1G) env 209 cC bD bD [.int .i64 o,.int .i64 a,.int .i64 b] h Q=(
 Cd o b Q a h):=by kernel_rfl
theorem e3H: ∀xs h Q,a2Z xs h Q->aM env 209 xs h Q:=by
 intro xs h Q hk;unfold a2Z at hk;split at hk
 .rename_i o a b;refine aL (a8M) (e4W o a b h Q) ?_;delta lY Zn lX zP Cd wW; (try dsimp -iota -proj only)
  repeat' (first|refine aA ?_ ?_|refine aB (λ_=>?_) (λ_=>?_)|refine And.intro ?_ ?_)
  all_goals first|exact hk| (simp only [decide_eq_true_eq];exact lH _)| (simp_all;done)| (refine bN hk ?_;congr 1; (try simp only [beq_iff_eq,beq_eq_false_iff_ne,ne_eq]at*);unfold A8; (repeat (first|rw [if_pos (by assumption)]|rw [if_neg (by assumption)]));first|done|rfl)
 .exact hk.elim
def a1D:=aV 209 a2Z a1G
theorem a8J:aS env a1D:=aE e3H (a8M)
def b9Y(xs:Y14)(h:Heap)(K:KT):Prop:=match xs with
 | [.int .i64 o,.int .i64 a,.int .i64 b]=>K (.int .i64 (A1 o a b)) h
 |_=>False
def Cg(o:Int)(Q:KT)(h:Heap)(a:Int)(b:Int)(g:Prop):Prop:=zP o Q h 4 (wW (a+b)) 5 (wW (a-b)) 6 (Q (.int .i64 (wW (a*b))) h) (aK (o==7) (Q (.int .i64 (A0 a b)) h) (aK (o==8) (aK (b==0) (Q (.int .i64 0) h) (Q (.int .i64 (wW (a-wW (A0 a b*b)))) h)) (zP o Q h 9 (fM .i64 a b) 10 (e7O .i64
 a b) 11 (Q (.int .i64 (A4 .i64 a b)) h) g)))
theorem f3R(o a b:Int)(h:Heap)(Q:KT):dF (aU a1D) env 170 cC bD bD [.int .i64 o,.int .i64 a,.int .i64 b] h Q=(
 Cg o Q h a b (Q (.int .i64 (A8 o a b)) h)):=by kernel_rfl
theorem f1A: ∀xs h Q,b9Y xs h Q->aM env 170 xs h Q:=by
 intro xs h Q hk;unfold b9Y at hk;split at hk
 .rename_i o a b;refine aL (a8J) (f3R o a b h Q) ?_;delta zP Cg wW; (try dsimp -iota -proj only)
  repeat' (first|refine aA ?_ ?_|refine aB (λ_=>?_) (λ_=>?_)|refine And.intro ?_ ?_)
  all_goals first|exact hk| (simp only [decide_eq_true_eq];exact lH _)| (simp_all;done)| (refine bN hk ?_;congr 1; (try simp only [beq_iff_eq,beq_eq_false_iff_ne,ne_eq]at*);unfold A1; (repeat (first|rw [if_pos (by assumption)]|rw [if_neg (by assumption)]));first|done|rfl)
 .exact hk.elim
def b6W:=aV 170 b9Y a1D
theorem c2Q:aS env b6W:=aE f1A (a8J)
def V5(xs:Y14)(h:Heap)(K:KT):Prop:=match xs with
 | [.bool b]=>K (.int .i64 (nU b)) h
 |_=>False
theorem b3A(b:Bool)(h:Heap)(Q:KT):dF (aU b6W) env 191 cC bD bD [.bool b] h Q=(
 aK b (Q (.int .i64 1) h) (Q (.int .i64 0) h)):=by kernel_rfl
theorem b2N: ∀xs h Q,V5 xs h Q->aM env 191 xs h Q:=by
 intro xs h Q hk;unfold V5 at hk;split at hk
 .rename_i b;refine aL (c2Q) (b3A b h Q) ?_
  repeat' (first|refine aA ?_ ?_|refine aB (λ_=>?_) (λ_=>?_)|refine And.intro ?_ ?_)
  all_goals (refine bN hk ?_;simp_all [nU])
 .exact hk.elim
def T8:=aV 191 V5 b6W
theorem Ez:aS env T8:=aE b2N (c2Q)
def b9A(xs:Y14)(h:Heap)(K:KT):Prop:=match xs with
 | [.int .i64 a,.int .i64 b]=>K (.int .i64 (A0 a b)) h
 |_=>False
theorem f2V(a b:Int)(h:Heap)(Q:KT):dF (aU T8) env 190 cC bD bD [.int .i64 a,.int .i64 b] h Q=(
 aK (b==0) (Q (.int .i64 0) h) (aK (b==(-1:Int)) (Q (.int .i64 (wW ((0:Int)-a))) h) (aF (!b==0) (Q (.int .i64 (wW (Int.tdiv a b))) h)))):=by kernel_rfl
theorem f0F: ∀xs h Q,b9A xs h Q->aM env 190 xs h Q:=by
 intro xs h Q hk;unfold b9A at hk;split at hk
 .rename_i a b;refine aL (Ez) (f2V a b h Q) ?_;delta wW
  repeat' (first|refine aA ?_ ?_|refine aB (λ_=>?_) (λ_=>?_)|refine And.intro ?_ ?_)
  all_goals first|exact hk| (simp only [decide_eq_true_eq];exact lH _)| (simp_all;done)| (refine bN hk ?_;congr 1; (try simp only [beq_iff_eq,beq_eq_false_iff_ne,ne_eq]at*);unfold A0; (repeat (first|rw [if_pos (by assumption)]|rw [if_neg (by assumption)]));first|done|rfl)
 .exact hk.elim
def b5Y:=aV 190 b9A T8
theorem c1U:aS env b5Y:=aE f0F (Ez)
def Rm(xs:Y14)(h:Heap)(K:KT):Prop:=match xs with
 | [.int .i64 o,.int .i64 a,.int .i64 b]=>K (.int .i64 (A1 o a b)) h
 |_=>False
theorem e4Q(o a b:Int)(h:Heap)(Q:KT):dF (aU b5Y) env 131 cC bD bD [.int .i64 o,.int .i64 a,.int .i64 b] h Q=(
 Cg o Q h a b (Cd o b Q a h)):=by kernel_rfl
theorem c3P: ∀xs h Q,Rm xs h Q->aM env 131 xs h Q:=by
 intro xs h Q hk;unfold Rm at hk;split at hk
 .rename_i o a b;refine aL (c1U) (e4Q o a b h Q) ?_;delta zP Cg lY Zn lX Cd wW; (try dsimp -iota -proj only)
  repeat' (first|refine aA ?_ ?_|refine aB (λ_=>?_) (λ_=>?_)|refine And.intro ?_ ?_)
  all_goals first|exact hk| (simp only [decide_eq_true_eq];exact lH _)| (simp_all;done)| (refine bN hk ?_;congr 1; (try simp only [beq_iff_eq,beq_eq_false_iff_ne,ne_eq]at*);unfold A1 A8; (repeat (first|rw [if_pos (by assumption)]|rw [if_neg (by assumption)]));first|done|rfl)
 .exact hk.elim
def a0X:=aV 131 Rm b5Y
theorem a8E:aS env a0X:=aE c3P (c1U)
def C5(xs:Y14)(h:Heap)(K:KT):Prop:=match xs with
 | [.agg [.int .i64 a,.int .i64 b]]=>K (.bool (a==b)) h
 |_=>False
theorem a4R(a b:Int)(h:Heap)(Q:KT):dF (aU a0X) env 167 cC bD bD [.agg [.int .i64 a,.int .i64 b]] h Q=(
 Q (.bool (a==b)) h):=by kernel_rfl
theorem a4J: ∀xs h Q,C5 xs h Q->aM env 167 xs h Q:=by
 intro xs h Q hk;unfold C5 at hk;split at hk
 .rename_i a b;refine aL (a8E) (a4R a b h Q) ?_;exact hk
 .exact hk.elim
def C2:=aV 167 C5 a0X
theorem Ad:aS env C2:=aE a4J (a8E)
def Eb(xs:Y14)(h:Heap)(K:KT):Prop:=match xs with
 | [.bool b,.bool c]=>K (.agg [.int .i64 (Y1 b c).1,.int .i64 (Y1 b c).2]) h
 |_=>False
theorem c4M(b c:Bool)(h:Heap)(Q:KT):dF (aU C2) env 212 cC bD bD [.bool b,.bool c] h Q=(
 aK b (Q (.agg [.int .i64 1,iI 1]) h) (aK c (Q (.agg [.int .i64 0,iI 0]) h) (Q (.agg [.int .i64 0,iI 1]) h))):=by kernel_rfl
theorem c3M: ∀xs h Q,Eb xs h Q->aM env 212 xs h Q:=by
 intro xs h Q hk;unfold Eb at hk;split at hk
 .rename_i b c;refine aL (Ad) (c4M b c h Q) ?_;delta iI
  repeat' (first|refine aA ?_ ?_|refine aB (λ_=>?_) (λ_=>?_)|refine And.intro ?_ ?_)
  all_goals first|exact hk| (refine bN hk ?_;simp only [IV.agg.injEq,IV.tuple.injEq,IV.int.injEq,IV.bool.injEq,BE,true_and,and_true];grind [Y1])
 .exact hk.elim
def Cv:=aV 212 Eb C2
theorem Ob:aS env Cv:=aE c3M (Ad)
def e0Q(xs:Y14)(h:Heap)(K:KT):Prop:=match xs with
 | [.int .i64 a,.int .i64 b]=>(aZ a/\aZ b)/\K (.tuple [.int .i64 (IntKind.i64.wrap (a+b)),.bool (dM (a+b))]) h
 |_=>False
theorem f8R(a b:Int)(h:Heap)(Q:KT):dF (aU Cv) env 172 cC bD bD [.int .i64 a,.int .i64 b] h Q=(
 Q (.tuple [.int .i64 (wW (a+b)),IV.bool (decide (wW (a+b)<a)==decide (b<0))]) h):=by kernel_rfl
theorem f6R: ∀xs h Q,e0Q xs h Q->aM env 172 xs h Q:=by
 intro xs h Q hk;unfold e0Q at hk;split at hk
 .rename_i a b;refine aL (Ob) (f8R a b h Q) ?_;delta wW;obtain⟨⟨h1,h2⟩,hk⟩:=hk;refine bN hk ?_;rw [e3Y h1 h2]
 .exact hk.elim
def d8V:=aV 172 e0Q Cv
theorem d6H:aS env d8V:=aE f6R (Ob)
def b8C(xs:Y14)(h:Heap)(K:KT):Prop:=match xs with
 | [.int .i64 a,.int .i64 b]=>(aZ a/\aZ b)/\K (.tuple [.int .i64 (IntKind.i64.wrap (a-b)),.bool (dM (a-b))]) h
 |_=>False
theorem f1Y(a b:Int)(h:Heap)(Q:KT):dF (aU d8V) env 173 cC bD bD [.int .i64 a,.int .i64 b] h Q=(
 Q (.tuple [.int .i64 (wW (a-b)),IV.bool (decide (wW (a-b)>a)==decide (b<0))]) h):=by kernel_rfl
theorem e9I: ∀xs h Q,b8C xs h Q->aM env 173 xs h Q:=by
 intro xs h Q hk;unfold b8C at hk;split at hk
 .rename_i a b;refine aL (d6H) (f1Y a b h Q) ?_;delta wW;obtain⟨⟨h1,h2⟩,hk⟩:=hk;refine bN hk ?_;rw [c7R h1 h2]
 .exact hk.elim
def b4X:=aV 173 b8C d8V
theorem c1A:aS env b4X:=aE e9I (d6H)
def G7(xs:Y14)(h:Heap)(K:KT):Prop:=match xs with
 | [.int .i64 a,.int .i64 b,.int .i64 c,.int .i64 d,.func (.func 172) [] []]=>((aZ a/\aZ b)/\(aZ c/\aZ d))/\K (.agg [.int .i64 (Cq (a+b) (c+d)).1,.int .i64 (Cq (a+b) (c+d)).2]) h
 |_=>False
theorem c4O(a b c d:Int)(h:Heap)(Q:KT):dF (aU b4X) env 171 cC bD bD [.int .i64 a,.int .i64 b,.int .i64 c,.int .i64 d,.func (.func 172) [] []] h Q=(
 (aZ a/\aZ b)/\(aZ c/\aZ d)/\aK (!dM (a+b)) (Q (.agg [.int .i64 (-9223372036854775808),iI 9223372036854775807]) h) (aK (!dM (c+d)) (Q (.agg [.int .i64 (-9223372036854775808),iI 9223372036854775807]) h) (Q (.agg [.int .i64 (wW (a+b)),iI (wW (c+d))]) h))):=by kernel_rfl
theorem Xz: ∀xs h Q,G7 xs h Q->aM env 171 xs h Q:=by
 intro xs h Q hk;unfold G7 at hk;split at hk
 .rename_i a b c d;refine aL (c1A) (c4O a b c d h Q) ?_;delta wW iI;obtain⟨⟨⟨g,i⟩,j,hd⟩,hk⟩:=hk;refine⟨⟨g,i⟩,⟨j,hd⟩,aB (λh1=>bN hk ?_) (λh1=>aB (λh2=>bN hk ?_) (λh2=>bN hk ?_))⟩
  .unfold Cq;simp_all
  .unfold Cq;simp_all
  .simp only [CA]at h1 h2;rw [eL h1,eL h2];unfold Cq;rw [h1,h2];rfl
 .exact hk.elim
def Cx:=aV 171 G7 b4X
theorem Od:aS env Cx:=aE Xz (c1A)
def G6(xs:Y14)(h:Heap)(K:KT):Prop:=match xs with
 | [.int .i64 a,.int .i64 b,.int .i64 c,.int .i64 d,.func (.func 173) [] []]=>((aZ a/\aZ b)/\(aZ c/\aZ d))/\K (.agg [.int .i64 (Cq (a-b) (c-d)).1,.int .i64 (Cq (a-b) (c-d)).2]) h
 |_=>False
theorem c4N(a b c d:Int)(h:Heap)(Q:KT):dF (aU Cx) env 171 cC bD bD [.int .i64 a,.int .i64 b,.int .i64 c,.int .i64 d,.func (.func 173) [] []] h Q=(
 (aZ a/\aZ b)/\(aZ c/\aZ d)/\aK (!dM (a-b)) (Q (.agg [.int .i64 (-9223372036854775808),iI 9223372036854775807]) h) (aK (!dM (c-d)) (Q (.agg [.int .i64 (-9223372036854775808),iI 9223372036854775807]) h) (Q (.agg [.int .i64 (wW (a-b)),iI (wW (c-d))]) h))):=by kernel_rfl
theorem Xy: ∀xs h Q,G6 xs h Q->aM env 171 xs h Q:=by
 intro xs h Q hk;unfold G6 at hk;split at hk
 .rename_i a b c d;refine aL (Od) (c4N a b c d h Q) ?_;delta wW iI;obtain⟨⟨⟨g,i⟩,j,hd⟩,hk⟩:=hk;refine⟨⟨g,i⟩,⟨j,hd⟩,aB (λh1=>bN hk ?_) (λh1=>aB (λh2=>bN hk ?_) (λh2=>bN hk ?_))⟩
  .unfold Cq;simp_all
  .unfold Cq;simp_all
  .simp only [CA]at h1 h2;rw [eL h1,eL h2];unfold Cq;rw [h1,h2];rfl
 .exact hk.elim
def Cw:=aV 171 G6 Cx
theorem Oc:aS env Cw:=aE Xy (Od)
def e0O(xs:Y14)(h:Heap)(K:KT):Prop:=match xs with
 | [.agg [.int .i64 a,.int .i64 b],.agg [.int .i64 c,.int .i64 d]]=>(((aZ a/\aZ b)/\(aZ c/\aZ d))/\c<=d)/\K (.agg [.int .i64 (zZ a b c d).1,.int .i64 (zZ a b c d).2]) h
 |_=>False
def c5Z(a d:Int):=if wW ((1:Int)-d)>a then wW ((1:Int)-d)else a
def c6A(b d:Int):=if wW (d-1)<b then wW (d-1)else b
theorem f8N(a b c d:Int)(h:Heap)(Q:KT):dF (aU Cw) env 177 cC bD bD [.agg [.int .i64 a,.int .i64 b],.agg [.int .i64 c,.int .i64 d]] h Q=(
 aK (decide (c<1)) (Q (.agg [.int .i64 (-9223372036854775808:Int),iI 9223372036854775807]) h) (aK (decide (a<0)) (aK (decide (b>0)) (Q (.agg [.int .i64 (c5Z a d),iI (c6A b d)]) h) (Q (.agg [.int .i64 (c5Z a d),iI 0]) h)) (aK (decide (b>0)) (Q (.agg [.int .i64 0,iI (c6A b d)]) h) (Q (.agg [.int .i64 0,iI 0]) h)))):=by kernel_rfl
theorem f6P: ∀xs h Q,e0O xs h Q->aM env 177 xs h Q:=by
 intro xs h Q hk;unfold e0O at hk;split at hk
 .rename_i a b c d;refine aL (Oc) (f8N a b c d h Q) ?_;delta c5Z c6A wW iI;obtain⟨⟨⟨⟨g,i⟩,j,hd⟩,l⟩,hk⟩:=hk;unfold aZ at g i j hd;refine aB (λh1=>bN hk ?_) (λh1=>?_)
  .simp only [decide_eq_true_eq]at h1;unfold zZ;rw [if_pos h1]
  simp only [decide_eq_false_iff_not]at h1;rw [AA (1-d) JZ,AA (d-1) JZ]
  repeat' (first|refine aA ?_ ?_|refine aB (λ_=>?_) (λ_=>?_)|refine And.intro ?_ ?_)
  all_goals first|exact hk| (refine bN hk ?_;simp only [IV.agg.injEq,IV.tuple.injEq,IV.int.injEq,IV.bool.injEq,BE,true_and,and_true];grind [zZ])
 .exact hk.elim
def d8S:=aV 177 e0O Cw
theorem d6E:aS env d8S:=aE f6P (Oc)
def d9T(xs:Y14)(h:Heap)(K:KT):Prop:=match xs with
 | [.int .i64 o,.agg [.int .i64 a,.int .i64 b],.agg [.int .i64 c,.int .i64 d]]=>(a<=b/\c<=d)/\K (.agg [.int .i64 (G3 o a b c d).1,.int .i64 (G3 o a b c d).2]) h
 |_=>False
def b0F(a b c d:Int):=IV.agg [.int .i64 ((Y1 (decide (b<c)) (decide (a>=d))).1),iI ((Y1 (decide (b<c)) (decide (a>=d))).2)]
def Ci(o:Int)(Q:KT)(h:Heap)(i:Int)(j:Y14)(l:Int)(g:Int×Int)(m:Int)(r:Prop)(u:Prop):Prop:=aK (o==i) (Q (.agg j) h) (aK (o==l) (Q (.agg [.int .i64 g.1,iI g.2]) h) (aK (o==m) r u))
theorem f7P(o a b c d:Int)(h:Heap)(Q:KT):dF (aU d8S) env 180 cC bD bD [.int .i64 o,.agg [.int .i64 a,.int .i64 b],.agg [.int .i64 c,.int .i64 d]] h Q=(
 Ci o Q h 15 [iI ((Y1 false !iS a b c d).1),iI ((Y1 false !iS a b c d).2)] 16 (Y1 (!iS a b c d) false) 18 (Q (.agg [.int .i64 ((Y1 (decide (b<=c)) (decide (a>d))).1),iI ((Y1 (decide (b<=c)) (decide (a>d))).2)]) h) (aK (o==19) (aK (decide ((if c<a then c else a)<0)) (aK (decide ((if d>b then d else b)>=0)) (Q (.agg [.int .i64 0,iI 1]) h) (Q (b0F a b c d) h)) (Q (b0F a b c d) h)) (Q (b0F a b c d) h))):=by kernel_rfl
theorem f5V: ∀xs h Q,d9T xs h Q->aM env 180 xs h Q:=by
 intro xs h Q hk;unfold d9T at hk;split at hk
 .rename_i o a b c d;refine aL (d6E) (f7P o a b c d h Q) ?_;delta Ci b0F iI; (try dsimp -iota -proj only);obtain⟨⟨h1,h2⟩,hk⟩:=hk
  repeat' (first|refine aA ?_ ?_|refine aB (λ_=>?_) (λ_=>?_)|refine And.intro ?_ ?_)
  all_goals first|exact hk| (refine bN hk ?_;simp only [IV.agg.injEq,IV.tuple.injEq,IV.int.injEq,IV.bool.injEq,BE,true_and,and_true];grind [G3])
 .exact hk.elim
def d7V:=aV 180 d9T d8S
theorem d5H:aS env d7V:=aE f5V (d6E)
def Rt(xs:Y14)(h:Heap)(K:KT):Prop:=match xs with
 | [.agg [.int .i64 a,.int .i64 b],.agg [.int .i64 c,.int .i64 d],.agg [.int .i64 e,.int .i64 f]]=>K (.agg [.int .i64 (jO a b c d e f).1,.int .i64 (jO a b c d e f).2]) h
 |_=>False
def Pf:=IV.agg [.int .i64 (-9223372036854775808:Int),iI 9223372036854775807]
def zQ(Q:KT)(h:Heap)(g:Int)(i:Int)(j:Bool)(l:Prop)(m:Prop):Prop:=aK (!decide (g<=i)) (Q Pf h) (aK j l m)
def rH(l:Int)(m:Int)(r:Bool)(u:Prop)(g:Bool)(i:Prop)(j:Prop):Prop:=aK (l==m) (aK r u (aK g i j)) (aK g i j)
theorem d1Y(a b c d e f:Int)(h:Heap)(Q:KT):dF (aU d7V) env 107 cC bD bD [.agg [.int .i64 a,.int .i64 b],.agg [.int .i64 c,.int .i64 d],.agg [.int .i64 e,.int .i64 f]] h Q=(
 zQ Q h a b (!decide (c<=d)) (Q Pf h) (aK (!decide (e<=f)) (Q Pf h) (rH a 0 (b==0) (Q (.agg [.int .i64 e,iI f]) h) (!contains a b 0) (Q (.agg [.int .i64 c,iI d]) h) (Q (.agg [.int .i64 (min c e),iI (max d f)]) h)))):=by kernel_rfl
theorem d0S: ∀xs h Q,Rt xs h Q->aM env 107 xs h Q:=by
 intro xs h Q hk;unfold Rt at hk;split at hk
 .rename_i a b c d e f;refine aL (d5H) (d1Y a b c d e f h Q) ?_;delta Pf zQ rH iI; (try dsimp -iota -proj only)
  repeat' (first|refine aA ?_ ?_|refine aB (λ_=>?_) (λ_=>?_)|refine And.intro ?_ ?_)
  all_goals first|exact hk| (refine bN hk ?_;simp only [IV.agg.injEq,IV.tuple.injEq,IV.int.injEq,IV.bool.injEq,BE,true_and,and_true];grind [jO])
 .exact hk.elim
def Qc:=aV 107 Rt d7V
theorem Xl:aS env Qc:=aE d0S (d5H)
def a3A(xs:Y14)(h:Heap)(K:KT):Prop:=match xs with
 | [.int .i64 o,.agg [.int .i64 a,.int .i64 b],.agg [.int .i64 c,.int .i64 d]]=>K (.agg [.int .i64 (uK o a b c d).1,.int .i64 (uK o a b c d).2]) h
 |_=>False
def b0E:=IV.agg [.int .i64 (-9223372036854775808:Int),iI 9223372036854775807]
def B6(c:Int):=fM .i64 c 63
def Zj(c:Int):=(2:Int) ^min (lX c) 64
def a9S(o:Int)(c:Int)(d:Int)(Q:KT)(h:Heap)(g:Int)(u:Prop)(y:Int)(z:Int)(m:Int)(r:Int)(A:Bool)(D:Prop)(G:Prop)(K:Prop)(i:Bool)(j:Prop)(l:Prop):Prop:=rH o g (c==d) (aF (lY (B6 c)) (aF (lY (B6 c)) u)) (o==g) (Q (.agg [.int .i64 y,iI z]) h) (rH m r A D (m==r) G (aK (c==d) K (aK i j l)))
def Ce(c:Int)(Q:KT)(a:Int)(b:Int)(h:Heap):Prop:=aF (lY (B6 c)) (aF (lY (B6 c)) (Q (.agg [.int .i64 (Int.fdiv a (Zj c)),iI (Int.fdiv b (Zj c))]) h))
def M9(c:Int)(d:Int)(Q:KT)(h:Heap)(a:Int)(b:Int):Prop:=aK (c==d) (aF (lY ((64:Int)-IntKind.wrap .u64 (B6 c))) (Q (.agg [.int .i64 0,iI (wW (wW ((1:Int)*(2:Int) ^min ((IntKind.wrap .u64 ((64:Int)-IntKind.wrap .u64 (B6 c))).toNat) 64)-1))]) h)) (aK (decide (a>=0)) (Q (.agg [.int .i64 0,iI b]) h) (Q b0E h))
theorem e4X(o a b c d:Int)(h:Heap)(Q:KT):dF (aU Qc) env 179 cC bD bD [.int .i64 o,.agg [.int .i64 a,.int .i64 b],.agg [.int .i64 c,.int .i64 d]] h Q=(
 a9S o c d Q h 12 (aF (lY (B6 c)) (aK (Int.fdiv (wW (a*(2:Int) ^min (lX c) 64)) (Zj c) !=a) (Q b0E h) (aF (lY (B6 c)) (aK (Int.fdiv (wW (b*(2:Int) ^min (lX c) 64)) (Zj c) !=b) (Q b0E h) (Q (.agg [.int .i64 (wW (a*(2:Int) ^min (lX c) 64)),iI (wW (b*(2:Int) ^min (lX c) 64))]) h))))) (-9223372036854775808:Int) 9223372036854775807 o 14 (c==d) (Ce c Q a b h) (Q (.agg [.int .i64 (if 0<a then(0:Int)else a),iI (if(-1:Int)>b then(-1:Int)else b)]) h) (aK (IntKind.wrap .u64 (B6 c)==0) (Q (.agg [.int .i64 a,iI b]) h) (aK (c==d) (aK (decide (a>=(0:Int))) (Ce c Q a b h) (M9 c d Q h a b)) (M9 c d Q h a b))) (c==d) (aK (decide (a>=0)) (Ce c Q a b h) (M9 c d Q h a b)) (M9 c d Q h a b)):=by kernel_rfl
theorem e3I: ∀xs h Q,a3A xs h Q->aM env 179 xs h Q:=by
 intro xs h Q hk;unfold a3A at hk;split at hk
 .rename_i o a b c d;refine aL (Xl) (e4X o a b c d h Q) ?_;delta rH lY B6 a9S lX Zj b0E Ce M9 wW iI; (try dsimp -iota -proj only);have g:(0:Int)<=c%64/\c%64<64:=JZ;have i:IntKind.u64.wrap (64-c%64)=64-c%64:=EP _ JZ;have hm:min (64-c%64).toNat 64=(64-c%64).toNat:=JZ;have l:IntKind.u64.wrap (c%64)=c%64:=EP _ JZ;have j:IntKind.i64.wrap (64-c%64)=64-c%64:=AA _ JZ;simp only [a6E,l,j,i,e8L,hm]
  repeat' (first|refine aA ?_ ?_|refine aB (λ_=>?_) (λ_=>?_)|refine And.intro ?_ ?_)
  all_goals first|exact hk|omega| (simp only [decide_eq_true_eq];omega)| (refine bN hk ?_;simp only [IV.agg.injEq,IV.tuple.injEq,IV.int.injEq,IV.bool.injEq,BE,true_and,and_true];simp only [beq_iff_eq,beq_eq_false_iff_ne,bne_iff_ne,ne_eq,decide_eq_true_eq,decide_eq_false_iff_not,bne_eq_false_iff_eq]at*;grind [uK,Fo,D8])
 .exact hk.elim
def a1E:=aV 179 a3A Qc
theorem a8K:aS env a1E:=aE e3I (Xl)
def a7C(xs:Y14)(h:Heap)(K:KT):Prop:=match xs with
 | [.int .i64 o,.int .i64 a]=>K (.int .i64 (Yq o a)) h
 |_=>False
theorem f3H(o a:Int)(h:Heap)(Q:KT):dF (aU a1E) env 130 cC bD bD [.int .i64 o,.int .i64 a] h Q=(
 aK (o==20) (Q (.int .i64 (wW ((0:Int)-a))) h) (aK (o==21) (Q (.int .i64 (A4 .i64 (-1:Int) a)) h) (Q (.int .i64 0) h))):=by kernel_rfl
theorem d6R: ∀xs h Q,a7C xs h Q->aM env 130 xs h Q:=by
 intro xs h Q hk;unfold a7C at hk;split at hk
 .rename_i o a;refine aL (a8K) (f3H o a h Q) ?_;delta wW
  repeat' (first|refine aA ?_ ?_|refine aB (λ_=>?_) (λ_=>?_)|refine And.intro ?_ ?_)
  all_goals first|exact hk| (refine bN hk ?_;congr 1; (try simp only [beq_iff_eq,beq_eq_false_iff_ne,ne_eq]at*);unfold Yq; (repeat (first|rw [if_pos (by assumption)]|rw [if_neg (by assumption)]));first|done|rfl)
 .exact hk.elim
def b6L:=aV 130 a7C a1E
theorem c2F:aS env b6L:=aE d6R (a8K)
def kUn(xs:Y14)(h:Heap)(K:KT):Prop:=match xs with
 | [.int .i64 o,.agg [.int .i64 a,.int .i64 b]]=>K (.agg [.int .i64 (Bc o a b).1,.int .i64 (Bc o a b).2]) h
 |_=>False
def c5A:=IV.agg [.int .i64 (-9223372036854775808:Int),iI 9223372036854775807]
def Tq(Q:KT)(h:Heap)(a:Int)(b:Int)(o:Int):Prop:=zQ Q h a b (a==b) (Q (.agg [.int .i64 (Yq o a),iI (Yq o a)]) h) (aK (o==21) (Q (.agg [.int .i64 (A4 .i64 (-1:Int) b),iI (A4 .i64 (-1:Int) a)]) h) (aK (a==(-9223372036854775808:Int)) (Q c5A h) (Q (.agg [.int .i64 (wW ((0:Int)-b)),iI (wW ((0:Int)-a))]) h)))
theorem vUn(o a b:Int)(h:Heap)(Q:KT):dF (aU b6L) env 108 cC bD bD [.int .i64 o,.agg [.int .i64 a,.int .i64 b]] h Q=(
 aK (o !=20) (aK (o !=21) (Q c5A h) (Tq Q h a b o)) (Tq Q h a b o)):=by kernel_rfl
theorem sUn: ∀xs h Q,kUn xs h Q->aM env 108 xs h Q:=by
 intro xs h Q hk;unfold kUn at hk;split at hk
 .rename_i o a b;refine aL (c2F) (vUn o a b h Q) ?_;delta c5A Pf zQ Tq wW iI; (try dsimp -iota -proj only);have g: ∀x,A4 .i64 (-1:Int) x=Vo x:=λ_=>rfl
  simp only [g]
  repeat' (first|refine aA ?_ ?_|refine aB (λ_=>?_) (λ_=>?_)|refine And.intro ?_ ?_)
  all_goals first|exact hk| (refine bN hk ?_;try simp only [IV.agg.injEq,IV.tuple.injEq,IV.int.injEq,IV.bool.injEq,BE,true_and,and_true]; (try simp only [beq_iff_eq,beq_eq_false_iff_ne,bne_iff_ne,ne_eq,decide_eq_true_eq,decide_eq_false_iff_not,bne_eq_false_iff_eq]at*);grind [Bc])
 .exact hk.elim
def cUn:=aV 108 kUn b6L
theorem e8Z:aS env cUn:=aE sUn (c2F)
def a2E(xs:Y14)(h:Heap)(K:KT):Prop:=match xs with
 | [.int .u64 x]=>(0<=x/\x<=18446744073709551615)/\K (.int .i64 (gH x.toNat:Int)) h
 |_=>False
def M8(Q:KT)(h:Heap)(g:Int)(j:Int):Prop:=aF (decide (0<=IntKind.wrap .u8 g)) (b7A [0,1,2,2,3,3,3,3,4,4,4,4,4,4,4,4,5,5,5,5,5,5,5,5,5,5,5,5,5,5,5,5,6,6,6,6,6,6,6,6,6,6,6,6,6,6,6,6,6,6,6,6,6,6,6,6,6,6,6,6,6,6,6,6,7,7,7,7,7,7,7,7,7,7,7,7,7,7,7,7,7,7,7,7,
 7,7,7,7,7,7,7,7,7,7,7,7,7,7,7,7,7,7,7,7,7,7,7,7,7,7,7,7,7,7,7,7,7,7,7,7,7,7,7,7,7,7,7,7,8,8,8,8,8,8,8,8,8,8,8,8,8,8,8,8,8,8,8,8,8,8,8,8,8,8,8,8,8,8,8,8,8,8,8,8,8,8,8,8,8,8,8,8,8,8,8,8,8,8,8,8,8,8,8,8,8,
 8,8,8,8,8,8,8,8,8,8,8,8,8,8,8,8,8,8,8,8,8,8,8,8,8,8,8,8,8,8,8,8,8,8,8,8,8,8,8,8,8,8,8,8,8,8,8,8,8,8,8,8,8,8,8,8,8,8,8,8,8,8,8,8,8,8,8,8,8,8,8] ((IntKind.wrap .u8 g).toNat) λi=>Q (.int .i64 (wW (j+wW i))) h)
def Ch(Q:KT)(h:Heap)(g:Int)(i:Int)(j:Int)(l:Int):Prop:=aK (decide (Int.fdiv g i>=256)) (M8 Q h (Int.fdiv (Int.fdiv g i) 256) j) (M8 Q h (Int.fdiv g i) l)
theorem e4F(x:Int)(h:Heap)(Q:KT):dF (aU cUn) env 211 cC bD bD [.int .u64 x] h Q=(
 aK (decide (x>=4294967296)) (aK (decide (Int.fdiv x 4294967296>=65536)) (Ch Q h (Int.fdiv x 4294967296) 65536 56 48) (Ch Q h x 4294967296 40 32)) (aK (decide (x>=65536)) (Ch Q h x 65536 24 16) (aK (decide (x>=256)) (M8 Q h (Int.fdiv x 256) 8) (M8 Q h x 0)))):=by kernel_rfl
theorem e2O: ∀xs h Q,a2E xs h Q->aM env 211 xs h Q:=by
 intro xs h Q hk;unfold a2E at hk;split at hk
 .rename_i x;refine aL (e8Z) (e4F x h Q) ?_;delta M8 Ch wW; (try dsimp -iota -proj only);obtain⟨⟨h1,h2⟩,hk⟩:=hk;have f: ∀z p:Int,0<=p->z.fdiv p=z/p:=λz p G=>EJ _ G
  have u:=λz=>f z 4294967296 JZ
  have y:=λz=>f z 65536 JZ
  have A:=λz=>f z 256 JZ
  have l:=λ(z:Int)(D:(4294967296:Int)<=z)=>Cp (x:=z) 32 4294967296 KA JZ
  have m:=λ(z:Int)(D:(65536:Int)<=z)=>Cp (x:=z) 16 65536 KA JZ
  have r:=λ(z:Int)(D:(256:Int)<=z)=>Cp (x:=z) 8 256 KA JZ
  simp only [Int.cast_ofNat_Int]at l m r;refine aB (λj=>aB (λi=>aB (λg=>?_) (λg=>?_)) (λi=>aB (λg=>?_) (λg=>?_))) (λj=>aB (λi=>aB (λg=>?_) (λg=>?_)) (λi=>aB (λg=>?_) (λg=>?_)))
  all_goals simp only [decide_eq_true_eq,decide_eq_false_iff_not,u,y,A]at j i g
  all_goals refine c0K (n:=x.toNat) (by(try simp only [u,y,A]);omega) (by(try simp only [u,y,A]);omega) JZ ?_ hk _ (by kernel_rfl)
  all_goals try simp only [u,y,A]
  .rw [l _ j,m _ i,r _ g];omega
  .rw [l _ j,m _ i];omega
  .rw [l _ j,r _ g];omega
  .rw [l _ j];omega
  .rw [m _ i,r _ g];omega
  .rw [m _ i];omega
  .rw [r _ g];omega
  .omega
 .exact hk.elim
def a0Q:=aV 211 a2E cUn
theorem a7X:aS env a0Q:=aE e2O (e8Z)
def a2H(xs:Y14)(h:Heap)(K:KT):Prop:=match xs with
 | [.int .u64 x,.int .u64 y]=>((0<=x/\x<=18446744073709551615)/\(0<=y/\y<=18446744073709551615))/\K (.tuple [.int .u64 (A7 x y),.int .u64 (IntKind.u64.wrap (x*y))]) h
 |_=>False
def Tr(x:Int)(y:Int):Int:=IntKind.wrap .u64 (IntKind.wrap .u64 (Int.fdiv x 4294967296*fM .u64 y 4294967295)+Int.fdiv (IntKind.wrap .u64 (fM .u64 x 4294967295*fM .u64 y 4294967295)) 4294967296)
theorem e4I(x y:Int)(h:Heap)(Q:KT):dF (aU a0Q) env 210 cC bD bD [.int .u64 x,.int .u64 y] h Q=(
 Q (.tuple [.int .u64 (IntKind.wrap .u64 (IntKind.wrap .u64 (IntKind.wrap .u64 (Int.fdiv x 4294967296*Int.fdiv y 4294967296)+Int.fdiv (Tr x y) 4294967296)+Int.fdiv (IntKind.wrap .u64 (fM .u64 (Tr x y) 4294967295+IntKind.wrap .u64 (fM .u64 x 4294967295*Int.fdiv y 4294967296))) 4294967296)),IV.int .u64 (IntKind.wrap .u64 (x*y))]) h):=by kernel_rfl
theorem e2R: ∀xs h Q,a2H xs h Q->aM env 210 xs h Q:=by
 intro xs h Q hk;unfold a2H at hk;split at hk
 .rename_i x y;refine aL (a7X) (e4I x y h Q) ?_;delta Tr;obtain⟨⟨⟨h1,h2⟩,h3,h4⟩,hk⟩:=hk;rw [Wp h1 h2 h3 h4];exact hk
 .exact hk.elim
def a0S:=aV 210 a2H a0Q
theorem a7Z:aS env a0S:=aE e2R (a7X)
def Eg(xs:Y14)(h:Heap)(K:KT):Prop:=match xs with
 | [.int .i64 a,.int .i64 b]=>(aZ a/\aZ b)/\K (.tuple [.int .i64 (IntKind.i64.wrap (a*b)),.bool (dM (a*b))]) h
 |_=>False
def Zi(a b:Int):=wW (IntKind.wrap .u64 (IntKind.wrap .u64 a*IntKind.wrap .u64 b))
def Tp(b:Int)(Q:KT)(a:Int)(h:Heap)(g:Int):Prop:=aK (decide (b<0)) (Q (.tuple [.int .i64 (Zi a b),IV.bool (wW (wW g-a)==Int.fdiv (Zi a b) 9223372036854775808)]) h) (Q (.tuple [.int .i64 (Zi a b),IV.bool (wW g==Int.fdiv (Zi a b) 9223372036854775808)]) h)
theorem c4S(a b:Int)(h:Heap)(Q:KT):dF (aU a0S) env 175 cC bD bD [.int .i64 a,.int .i64 b] h Q=(
 ((0<=IntKind.wrap .u64 a/\IntKind.wrap .u64 a<=18446744073709551615)/\0<=IntKind.wrap .u64 b/\IntKind.wrap .u64 b<=18446744073709551615)/\aK (decide (a<0)) (Tp b Q a h (wW (A7 (IntKind.wrap .u64 a) (IntKind.wrap .u64 b))-b)) (Tp b Q a h (A7 (IntKind.wrap .u64 a) (IntKind.wrap .u64 b)))):=by kernel_rfl
theorem c3O: ∀xs h Q,Eg xs h Q->aM env 175 xs h Q:=by
 intro xs h Q hk;unfold Eg at hk;split at hk
 .rename_i a b;refine aL (a7Z) (c4S a b h Q) ?_;delta Zi Tp wW; (try dsimp -iota -proj only);obtain⟨⟨j,l⟩,hk⟩:=hk;have m: ∀z,0<=IntKind.u64.wrap z/\IntKind.u64.wrap z<=18446744073709551615:=λz=>by rw [Gc];omega
  refine⟨⟨m a,m b⟩,?_⟩;simp only [c0S,b3K];refine aB (λi=>aB (λg=>bN hk ?_) (λg=>bN hk ?_)) (λi=>aB (λg=>bN hk ?_) (λg=>bN hk ?_))
  all_goals simp only [decide_eq_true_eq,decide_eq_false_iff_not]at i g
  .rw [J5 j l (by rw [if_pos i,if_pos g])]
  .rw [J5 j l (by rw [if_pos i,if_neg g];omega)]
  .rw [J5 j l (by rw [if_neg i,if_pos g];omega)]
  .rw [J5 j l (by rw [if_neg i,if_neg g];omega)]
 .exact hk.elim
def Da:=aV 175 Eg a0S
theorem Og:aS env Da:=aE c3O (a7Z)
def a2P(xs:Y14)(h:Heap)(K:KT):Prop:=match xs with
 | [.int .i64 a,.int .i64 b]=>(aZ a/\1<=b)/\K (.tuple [.int .i64 (a.tdiv b),.bool true]) h
 |_=>False
theorem e4P(a b:Int)(h:Heap)(Q:KT):dF (aU Da) env 176 cC bD bD [.int .i64 a,.int .i64 b] h Q=(
 aF (!b==0) (Q (.tuple [.int .i64 (wW (Int.tdiv a b)),IV.bool true]) h)):=by kernel_rfl
theorem e2Y: ∀xs h Q,a2P xs h Q->aM env 176 xs h Q:=by
 intro xs h Q hk;unfold a2P at hk;split at hk
 .rename_i a b;refine aL (Og) (e4P a b h Q) ?_;delta wW;obtain⟨⟨g,i⟩,hk⟩:=hk;refine aA (by simp;omega) ?_;rw [rD g JZ JZ];exact hk
 .exact hk.elim
def a0W:=aV 176 a2P Da
theorem a8D:aS env a0W:=aE e2Y (Og)
def zG(xs:Y14)(h:Heap)(K:KT):Prop:=match xs with
 | [.agg [.int .i64 a,.int .i64 b],.agg [.int .i64 c,.int .i64 d],.func (.func 175) [] []]=>((aZ a/\aZ b)/\(aZ c/\aZ d))/\K (.agg [.int .i64 (Dw a b c d).1,.int .i64 (Dw a b c d).2]) h
 |_=>False
def c5Y:=IV.agg [.int .i64 (-9223372036854775808:Int),iI 9223372036854775807]
def To(Q:KT)(h:Heap)(g:Int)(i:Int)(j:Int)(l:Int)(m:Prop):Prop:=(aZ g/\aZ i)/\aK (!dM (g*i)) (Q c5Y h) ((aZ j/\aZ l)/\aK (!dM (j*l)) (Q c5Y h) m)
theorem b3D(a b c d:Int)(h:Heap)(Q:KT):dF (aU a0W) env 174 (λk=>match Nat.beq k 4 with|true=>3|false=>match Nat.beq k 7 with|true=>3|false=>0) bD bD [.agg [.int .i64 a,.int .i64 b],.agg [.int .i64 c,.int .i64 d],.func (.func 175) [] []] h Q=(
 To Q h a c a d (To Q h b c b d (Q (.agg [.int .i64 (min (min (min (wW (a*c)) (wW (a*d))) (wW (b*c))) (wW (b*d))),iI (max (max (max (wW (a*c)) (wW (a*d))) (wW (b*c))) (wW (b*d)))]) h))):=by kernel_rfl
theorem Ox: ∀xs h Q,zG xs h Q->aM env 174 xs h Q:=by
 intro xs h Q hk;unfold zG at hk;split at hk
 .rename_i a b c d;refine aL (a8D) (b3D a b c d h Q) ?_;delta c5Y To wW iI; (try dsimp -iota -proj only);obtain⟨⟨⟨m,r⟩,u,hd⟩,hk⟩:=hk;refine⟨⟨m,u⟩,aB (λg=>bN hk ?_) (λg=>⟨⟨m,hd⟩,aB (λi=>bN hk ?_) (λi=>⟨⟨r,u⟩,aB (λj=>bN hk ?_) (λj=>⟨⟨r,hd⟩,aB (λl=>bN hk ?_) (λl=>bN hk ?_)⟩)⟩)⟩)⟩
  all_goals simp only [BS,CA]at*
  all_goals unfold Dw
  .simp [g]
  .simp [i]
  .simp [j]
  .simp [l]
  .rw [eL g,eL i,eL j,eL l];simp only [g,i,j,l,EI,if_true,Bf,Be,Int.min_assoc,Int.max_assoc]
 .exact hk.elim
def U1:=aV 174 zG a0W
theorem Fc:aS env U1:=aE Ox (a8D)
def zF(xs:Y14)(h:Heap)(K:KT):Prop:=match xs with
 | [.agg [.int .i64 a,.int .i64 b],.agg [.int .i64 c,.int .i64 d],.func (.func 176) [] []]=>((((aZ a/\aZ b)/\(aZ c/\aZ d)))/\1<=c/\c<=d)/\K (.agg [.int .i64 (Dv a b c d).1,.int .i64 (Dv a b c d).2]) h
 |_=>False
theorem b3C(a b c d:Int)(h:Heap)(Q:KT):dF (aU U1) env 174 (λk=>match Nat.beq k 4 with|true=>3|false=>match Nat.beq k 7 with|true=>3|false=>0) bD bD [.agg [.int .i64 a,.int .i64 b],.agg [.int .i64 c,.int .i64 d],.func (.func 176) [] []] h Q=(
 (aZ a/\1<=c)/\(aZ a/\1<=d)/\(aZ b/\1<=c)/\(aZ b/\1<=d)/\Q (.agg [.int .i64 (min (min (min (Int.tdiv a c) (Int.tdiv a d)) (Int.tdiv b c)) (Int.tdiv b d)),iI (max (max (max (Int.tdiv a c) (Int.tdiv a d)) (Int.tdiv b c)) (Int.tdiv b d))]) h):=by kernel_rfl
theorem Ow: ∀xs h Q,zF xs h Q->aM env 174 xs h Q:=by
 intro xs h Q hk;unfold zF at hk;split at hk
 .rename_i a b c d;refine aL (Fc) (b3C a b c d h Q) ?_;delta iI;obtain⟨⟨⟨⟨g,i⟩,j,hd⟩,h1,h2⟩,hk⟩:=hk;refine⟨⟨g,h1⟩,⟨g,JZ⟩,⟨i,h1⟩,⟨i,JZ⟩,bN hk ?_⟩;unfold Dv
  rw [if_neg JZ];simp only [Bf,Be,Int.min_assoc,Int.max_assoc]
 .exact hk.elim
def U0:=aV 174 zF U1
theorem Fb:aS env U0:=aE Ow (Fc)
def Ea(xs:Y14)(h:Heap)(K:KT):Prop:=match xs with
 | [.int .i64 o,.agg [.int .i64 a,.int .i64 b],.agg [.int .i64 c,.int .i64 d]]=>((o=9\/o=10\/o=11)/\((aZ a/\aZ b)/\(aZ c/\aZ d))/\a<=b/\c<=d)/\K (.agg [.int .i64 (nP o a b c d).1,.int .i64 (nP o a b c d).2]) h
 |_=>False
def b0C:=IV.agg [.int .i64 (-9223372036854775808:Int),iI 9223372036854775807]
def c6B(b d:Int):=wW (wW ((1:Int)*(2:Int) ^min ((IntKind.wrap .u64 (↑(gH ((IntKind.wrap .u64 (if d>b then d else b)).toNat)):Int)).toNat) 64)-1)
def M7(o:Int)(Q:KT)(h:Heap)(a:Int)(c:Int)(d:Int)(b:Int):Prop:=aK (o==9) (Q b0C h) (aK (decide (a<0)) (Q b0C h) (aK (decide (c<0)) (Q b0C h) ((0<=IntKind.wrap .u64 (if d>b then d else b)/\IntKind.wrap .u64 (if d>b then d else b)<=18446744073709551615)/\aK (o==10) (Q (.agg [.int .i64 (if c>a then c else a),iI (c6B b d)]) h) (Q (.agg
 [.int .i64 0,iI (c6B b d)]) h))))
def b0D(o a b c d:Int)(Q:KT)(h:Heap):=aK (decide (c>=0)) (Q (.agg [.int .i64 0,iI d]) h) (M7 o Q h a c d b)
theorem c4L(o a b c d:Int)(h:Heap)(Q:KT):dF (aU U0) env 178 cC bD bD [.int .i64 o,.agg [.int .i64 a,.int .i64 b],.agg [.int .i64 c,.int .i64 d]] h Q=(
 rH o 9 (decide (a>=0)) (aK (decide (c>=0)) (Q (.agg [.int .i64 0,iI (if d<b then d else b)]) h) (rH o 9 (decide (a>=0)) (Q (.agg [.int .i64 0,iI b]) h) (o==9) (b0D o a b c d Q h) (M7 o Q h a c d b))) (o==9) (aK (decide (a>=0)) (Q (.agg [.int .i64 0,iI b]) h) (aK (o==9) (b0D o a b c d Q h) (M7 o Q h a c d b))) (aK (o==9) (b0D o a b c d Q h) (M7 o Q h a c d b))):=by kernel_rfl
theorem c3L: ∀xs h Q,Ea xs h Q->aM env 178 xs h Q:=by
 intro xs h Q hk;unfold Ea at hk;split at hk
 .rename_i o a b c d;refine aL (Fb) (c4L o a b c d h Q) ?_;delta rH b0C c6B M7 b0D wW iI; (try dsimp -iota -proj only);obtain⟨⟨ho,⟨⟨i,l⟩,r,hd⟩,j,u⟩,hk⟩:=hk;have z: ∀x y:Int,(if y<x then y else x)=min x y:=λx y=>JZ
  have A: ∀x y:Int,(if y>x then y else x)=max x y:=λx y=>JZ
  simp only [z,A];unfold aZ at i l r hd
  by_cases hs:0<=a/\0<=c
  .have g:IntKind.u64.wrap (max b d)=max b d:=EP _ JZ;simp only [g,a8S (m:=max b d) JZ JZ]
   repeat' (first|refine aA ?_ ?_|refine aB (λ_=>?_) (λ_=>?_)|refine And.intro ?_ ?_)
   all_goals first|exact hk|omega| (refine bN hk ?_;simp only [IV.agg.injEq,IV.tuple.injEq,IV.int.injEq,IV.bool.injEq,BE,true_and,and_true];grind [nP])
  .repeat' (first|refine aA ?_ ?_|refine aB (λ_=>?_) (λ_=>?_)|refine And.intro ?_ ?_)
   all_goals first|exact hk| (exfalso;grind)| (refine bN hk ?_;simp only [IV.agg.injEq,IV.tuple.injEq,IV.int.injEq,IV.bool.injEq,BE,true_and,and_true];grind [nP])
 .exact hk.elim
def Ur:=aV 178 Ea U0
theorem b1Z:aS env Ur:=aE c3L (Fb)
def d9S(xs:Y14)(h:Heap)(K:KT):Prop:=match xs with
 | [a,b,c,d,.func (.func f) p q]=>match Nat.beq f 172 with|true=>G7 [a,b,c,d,.func (.func f) p q] h K|false=>G6 [a,b,c,d,.func (.func f) p q] h K
 |_=>False
theorem f5U: ∀xs h Q,d9S xs h Q->aM env 171 xs h Q:=by
 intro xs h Q hk;unfold d9S at hk;split at hk
 .split at hk
  .exact Xz _ _ _ hk
  .exact Xy _ _ _ hk
 .exact hk.elim
def e7T:=aV 171 d9S Ur
theorem e8U:aS env e7T:=aE f5U (b1Z)
def d9U(xs:Y14)(h:Heap)(K:KT):Prop:=match xs with
 | [a,b,.func (.func f) p q]=>match Nat.beq f 175 with|true=>zG [a,b,.func (.func f) p q] h K|false=>zF [a,b,.func (.func f) p q] h K
 |_=>False
theorem f5W: ∀xs h Q,d9U xs h Q->aM env 174 xs h Q:=by
 intro xs h Q hk;unfold d9U at hk;split at hk
 .split at hk
  .exact Ox _ _ _ hk
  .exact Ow _ _ _ hk
 .exact hk.elim
def d7W:=aV 174 d9U e7T
theorem d5I:aS env d7W:=aE f5W (e8U)
def d9R(xs:Y14)(h:Heap)(K:KT):Prop:=match xs with
 | [.int .i64 o,.agg [.int .i64 a,.int .i64 b],.agg [.int .i64 c,.int .i64 d]]=>((aZ a/\aZ b)/\(aZ c/\aZ d))/\K (.agg [.int .i64 (mI o a b c d).1,.int .i64 (mI o a b c d).2]) h
 |_=>False
def Zd:=IV.agg [.int .i64 (-9223372036854775808:Int),iI 9223372036854775807]
def Tn(o:Int)(Q:KT)(h:Heap)(i:Int)(j:Prop)(l:Prop)(g:Int×Int)(m:Int)(r:Prop)(u:Int)(y:Prop)(z:Int)(A:Prop)(D:Prop):Prop:=aK (o==i) ((j/\l)/\Q (.agg [.int .i64 g.1,iI g.2]) h) (aK (o==m) r (aK (o==u) y (aK (o==z) A D)))
def Cf(o:Int)(a:Int)(b:Int)(c:Int)(d:Int)(Q:KT)(h:Heap):Prop:=((o=9\/o=10\/o=11)/\((aZ a/\aZ b)/\aZ c/\aZ d)/\a<=b/\c<=d)/\Q (.agg [.int .i64 ((nP o a b c d).1),iI ((nP o a b c d).2)]) h
def Tm(o:Int)(a:Int)(c:Int)(b:Int)(d:Int)(Q:KT)(h:Heap):Prop:=Tn o Q h 4 (aZ a/\aZ c) (aZ b/\aZ d) (M13.Cq (a+c) (b+d)) 5 (((aZ a/\aZ d)/\aZ b/\aZ c)/\Q (.agg [.int .i64 ((M13.Cq (a-d) (b-c)).1),iI ((M13.Cq (a-d) (b-c)).2)]) h) 6 (((aZ a/\aZ b)/\aZ c/\aZ d)/\Q (.agg [.int .i64 (Prod.fst
 (Dw a b c d)),iI ((Dw a b c d).2)]) h) 7 (aK (decide (c<1)) (Q Zd h) ((((aZ a/\aZ b)/\aZ c/\aZ d)/\1<=c/\c<=d)/\Q (.agg [.int .i64 ((Dv a b c d).1),iI ((Dv a b c d).2)]) h)) (Tn o Q h 8 ((aZ a/\aZ b)/\aZ c/\aZ d) (c<=d) (zZ
 a b c d) 9 (Cf o a b c d Q h) 10 (Cf o a b c d Q h) 11 (Cf o a b c d Q h) (Ci o Q h 12 [iI ((uK o a b c d).1),iI ((uK o a b c d).2)] 13 (uK o a b c d) 14 (Q (.agg [.int .i64 ((uK o a b c d).1),iI (Prod.snd
 (uK o a b c d))]) h) ((a<=b/\c<=d)/\Q (.agg [.int .i64 ((G3 o a b c d).1),iI ((G3 o a b c d).2)]) h)))
theorem f7O(o a b c d:Int)(h:Heap)(Q:KT):dF (aU d7W) env 109 cC bD bD [.int .i64 o,.agg [.int .i64 a,.int .i64 b],.agg [.int .i64 c,.int .i64 d]] h Q=(
 aK (decide (o<4)) (Q Zd h) (aK (decide (o>19)) (Q Zd h) (zQ Q h a b (!decide (c<=d)) (Q Zd h) (aK (a==b) (aK (c==d) (Q (.agg [.int .i64 (A1 o a c),iI (A1 o a c)]) h) (Tm o a c b d Q h)) (Tm o a c b d Q h))))):=by kernel_rfl
theorem f5T: ∀xs h Q,d9R xs h Q->aM env 109 xs h Q:=by
 intro xs h Q hk;unfold d9R at hk;split at hk
 .rename_i o a b c d;refine aL (d5I) (f7O o a b c d h Q) ?_;delta Zd Pf zQ Tn Cf Ci Tm iI; (try dsimp -iota -proj only);obtain⟨⟨⟨g,i⟩,j,hd⟩,hk⟩:=hk
  repeat' (first|refine aA ?_ ?_|refine aB (λ_=>?_) (λ_=>?_)|refine And.intro ?_ ?_)
  all_goals simp only [decide_eq_true_eq,decide_eq_false_iff_not,beq_iff_eq,beq_eq_false_iff_ne,ne_eq,BS,CA]at*
  all_goals first|assumption| (unfold aZ at*;omega)| (refine⟨?_,?_⟩<;>assumption)| (refine bN hk ?_;simp only [IV.agg.injEq,IV.tuple.injEq,IV.int.injEq,IV.bool.injEq,BE,true_and,and_true];grind [mI,Dv,Dw,eL,Nl])
 .exact hk.elim
def d7U:=aV 109 d9R d7W
theorem d5G:aS env d7U:=aE f5T (d5I)
end Go.Proofs.YtkonebkblgemkaaGreat
end
end
