/-
  Texts of this proof, one after the other.
  Conditions: none.
-/
import Derived.Test.YtkonebkblgemkaaGreatX6
set_option linter.unusedVariables false
set_option linter.unusedSimpArgs false
set_option maxRecDepth 100000
set_option maxHeartbeats 4000000
noncomputable section
section
namespace Go.M14
open Go.Pv
def src:IV:= .str [102,117,110,99,32,102,40,41,32,118,97,114,32,105,32,123,32,119,104,105,108,101,32,40,105,32,60,32,57,41,32,123,32,105,32,61,32,105,32,43,32,49,59,32,125,32,114,101,116,117,114,110,32,105,59,32,125]
def prg:IV:= .agg [.vslice none 0 0 2 [],.vslice none 0 1 9 [.str [102],.vslice none 0 0 1 [],.vslice none 0 1 1 [.str [105]],.vslice none 0 1 17 [.int .i64 4,.str [],.str [],.int .i64 0,
 .int .i64 0,.int .i64 0,.str [],.int .i64 0,.vslice none 0 0 5 [],.int .i64 4,.int .i64 0,.str [],.int .i64 17,.vslice none 0 2 5 [.int .i64 2,.int .i64 0,.str [105],
 .int .i64 0,.vslice none 0 0 5 [],.int .i64 1,.int .i64 9,.str [],.int .i64 0,.vslice none 0 0 5 []],.vslice none 0 0 5 [],.vslice none 0 1 17 [.int .i64 1,.str [105],
 .str [],.int .i64 0,.int .i64 0,.int .i64 0,.str [],.int .i64 0,.vslice none 0 0 5 [],.int .i64 4,.int .i64 0,.str [],.int .i64 4,.vslice none 0 2 5 [.int .i64 2,.int
 .i64 0,.str [105],.int .i64 0,.vslice none 0 0 5 [],.int .i64 1,.int .i64 1,.str [],.int .i64 0,.vslice none 0 0 5 []],.vslice none 0 0 5 [],.vslice none 0 0 17 [],
 .vslice none 0 0 17 []],.vslice none 0 0 17 []],.int .i64 2,.int .i64 0,.str [105],.int .i64 0,.vslice none 0 0 5 []]]
def gph:IV:= .agg [.str [102],.int .i64 0,.vslice none 0 14 3 [.int .i64 26,.int .i64 0,.vslice none 0 0 1 [],.int .i64 1,.int .i64 0,.vslice none 0 0 1 [],.int .i64 1,.int .i64 9,.vslice
 none 0 0 1 [],.int .i64 17,.int .i64 0,.vslice none 0 2 1 [.int .i64 1,.int .i64 2],.int .i64 3,.int .i64 0,.vslice none 0 0 1 [],.int .i64 3,.int .i64 1,.vslice none 0
 0 1 [],.int .i64 1,.int .i64 1,.vslice none 0 0 1 [],.int .i64 4,.int .i64 0,.vslice none 0 2 1 [.int .i64 5,.int .i64 6],.int .i64 17,.int .i64 0,.vslice none 0 2 1
 [.int .i64 7,.int .i64 2],.int .i64 31,.int .i64 0,.vslice none 0 5 1 [.int .i64 0,.int .i64 1,.int .i64 8,.int .i64 4,.int .i64 7],.int .i64 25,.int .i64 0,.vslice
 none 0 1 1 [.int .i64 9],.int .i64 22,.int .i64 0,.vslice none 0 3 1 [.int .i64 3,.int .i64 10,.int .i64 0],.int .i64 25,.int .i64 1,.vslice none 0 1 1 [.int .i64 9],.int
 .i64 22,.int .i64 0,.vslice none 0 3 1 [.int .i64 3,.int .i64 12,.int .i64 1]],.int .i64 13,.int .i64 11]
def unit:IV:= .agg [.vslice none 0 0 2 [],.vslice none 0 1 5 [.str [102],.int .i64 0,.vslice none 0 14 3 [.int .i64 26,.int .i64 0,.vslice none 0 0 1 [],.int .i64 1,.int .i64 0,.vslice
 none 0 0 1 [],.int .i64 1,.int .i64 9,.vslice none 0 0 1 [],.int .i64 17,.int .i64 0,.vslice none 0 2 1 [.int .i64 1,.int .i64 2],.int .i64 3,.int .i64 0,.vslice none 0
 0 1 [],.int .i64 3,.int .i64 1,.vslice none 0 0 1 [],.int .i64 1,.int .i64 1,.vslice none 0 0 1 [],.int .i64 4,.int .i64 0,.vslice none 0 2 1 [.int .i64 5,.int .i64 6],
 .int .i64 17,.int .i64 0,.vslice none 0 2 1 [.int .i64 7,.int .i64 2],.int .i64 31,.int .i64 0,.vslice none 0 5 1 [.int .i64 0,.int .i64 1,.int .i64 8,.int .i64 4,.int
 .i64 7],.int .i64 25,.int .i64 0,.vslice none 0 1 1 [.int .i64 9],.int .i64 22,.int .i64 0,.vslice none 0 3 1 [.int .i64 3,.int .i64 10,.int .i64 0],.int .i64 25,.int
 .i64 1,.vslice none 0 1 1 [.int .i64 9],.int .i64 22,.int .i64 0,.vslice none 0 3 1 [.int .i64 3,.int .i64 12,.int .i64 1]],.int .i64 13,.int .i64 11]]
def inv:IV:= .vslice none 0 1 3 [.int .i64 1,.int .i64 0,.int .i64 8]
def g5R:IV:= .int .i64 0
end Go.M14
end
section
namespace Go.M14
open Go.Pv Go.M13
def cR(r:Int×Int):List IV:=[.int .i64 r.1,.int .i64 r.2]
theorem a3X: ∀{H:List (Int×Int)}{j:Nat}(h:j<H.length),(H.flatMap cR)[j*2]?=some (.int .i64 H[j].1)/\(H.flatMap cR)[j*2+1]?=some (.int .i64 H[j].2)
 |r::H,0,_=>⟨rfl,rfl⟩
 |r::H,j+1,h=>by
  have q:=a3X (H:=H) (j:=j) (by simpa using h);have e: ∀k,((r::H).flatMap cR)[k+2]?=(H.flatMap cR)[k]?:=fun k=>by
   show(cR r++H.flatMap cR)[k+2]?=_;rw [h1V (by simp [cR])];simp [cR]
  rw [show(j+1)*2=j*2+2 by omega,show j*2+2+1=(j*2+1)+2 by omega,e,e];exact q
def vok(H:List (Int×Int))(n:Int):Bool:=!(decide (n<1)||decide (n>H.length))
def vr(H:List (Int×Int))(n:Int):Int×Int:=if vok H n then H.getD (n-1).toNat (0,0)else(0,0)
def holds(k a b n:Int)(H:List (Int×Int))(L:List Int):Bool:=
 if vok H a=false then false
 else if k=1 then !contains (vr H a).1 (vr H a).2 0
 else if k=2 then decide (n<=(vr H a).1)
 else if k=3 then decide ((vr H a).2<=n)
 else if k=4 then vok H b&&!dU (vr H a).1 (vr H a).2 (vr H b).1 (vr H b).2
 else if k=5 then decide (1<=b) && (decide (b<=L.length) && (decide (0<=(vr H a).1) &&decide ((vr H a).2<L.getD (b-1).toNat 0)))
 else false
end Go.M14
end
section
namespace Go.M14
open Go.Pv Go.M13 Go.M15 Go.M10
def dB(r:Int×Int):Prop:=bJ r.1/\bJ r.2
theorem eF:dB (fK,fW):=by unfold dB bJ fK fW;omega
theorem a3Y{a p:Int}(h:bJ a)(g:0<p):bJ (a.fdiv p):=by
 rw [rZ a g];have:=qE (s:=a) g;unfold bJ at*
 rcases h5L a 0 with q|q
 ·have:=this.2 q;omega
 ·have:=this.1 q;omega
theorem d1E(b:Bool):bJ (mT b):=by unfold mT bJ;cases b<;>simp
theorem d5D{a b:Int}(h:bJ a):bJ (wV a b):=by
 unfold wV
 repeat' split
 ·unfold bJ;omega
 ·exact bX _
 ·exact bX _
theorem b5O{o a b:Int}(h:bJ a):bJ (a1D o a b):=by
 unfold a1D
 repeat' split
 all_goals first|exact bX _|exact d5D h| (unfold bJ;omega)|exact b5I _ _|exact c5Z _ _|exact b5J _ _|skip
 unfold wX
 repeat' split
 all_goals first|exact bX _|exact d1E _| (exact a3Y h (h9C (by omega)))| (unfold bJ;omega)
theorem a3Z(a:Int):bJ (c0S a):=bX _
theorem c6O(o a:Int):bJ (wun o a):=by
 unfold wun
 repeat' split
 ·exact bX _
 ·exact a3Z _
 ·unfold bJ;omega
theorem b5P(x y:Int):dB (M13.bnd x y):=by
 unfold M13.bnd
 split
 ·rename_i h;unfold iT at h;simp only [h0Y,decide_eq_true_eq]at h;unfold dB bJ
  exact h
 ·exact eF
theorem b5Q{a b c d:Int}(g:bJ a)(j:bJ b)(i:bJ c)(hd:bJ d):bJ (b5E a b c d)/\bJ (b5F a b c d):=by
 unfold b5E b5F bJ at*;omega
theorem b1B{s b:Int}(g:bJ s)(i:1<=b):bJ (s.tdiv b):=by
 rw [<-b0U g (by omega) (by omega)];exact bX _
theorem d5E{m:Int}(g:0<=m)(h1:m<=9223372036854775807):bJ (b0T m):=by
 rw [<-c5Y g h1];exact bX _
theorem d5F(b c:Bool):dB (tri b c):=by
 unfold tri
 repeat' split
 all_goals (unfold dB bJ;simp)
theorem d1F{o a b c d:Int}(g:bJ a)(l:bJ b)(p:bJ c)(hd:bJ d):dB (oT o a b c d):=by
 unfold oT
 split
 ·exact eF
 split
 ·exact⟨b5O g,b5O g⟩
 split
 ·exact b5P _ _
 split
 ·exact b5P _ _
 split
 ·unfold a6V
  split
  ·rename_i h;unfold iT at h;simp only [h0Y,decide_eq_true_eq]at h;exact b5Q h.1.1.1 h.1.1.2 h.1.2 h.2
  ·exact eF
 split
 ·unfold a6W
  split
  ·exact eF
  ·have j:1<=c:=by omega
   have i:1<=d:=by omega
   exact b5Q (b1B g j) (b1B g i) (b1B l j) (b1B l i)
 split
 ·unfold a1E
  split
  ·exact eF
  ·unfold dB bJ at*
   simp only
   repeat' split
   all_goals omega
 split
 ·unfold lN
  split
  ·repeat' split
   all_goals first|exact eF| (unfold dB bJ at*;simp only;omega)
  ·split
   ·exact eF
   ·have h1:bJ (b0T (max b d)):=d5E (by omega) (by unfold bJ at*;omega);refine⟨?_,h1⟩;unfold bJ at*
    simp only;split<;>omega
 split
 ·have m: ∀k:Nat,(0:Int)<2^k:=fun k=>h9C (by omega)
  unfold uZ
  repeat' split
  all_goals first|exact eF|exact⟨bX _,bX _⟩|exact⟨a3Y g (m _),a3Y l (m _)⟩|exact⟨g,l⟩| (refine⟨?_,bX _⟩;unfold bJ;omega)| (unfold dB bJ at*;simp only;omega)
 ·unfold b0S
  repeat' split
  all_goals first|exact d5F _ _| (unfold dB bJ;simp)
theorem d5G{o a b:Int}(g:bJ a)(i:bJ b):dB (iun o a b):=by
 unfold iun
 repeat' split
 all_goals first|exact eF|exact⟨c6O _ _,c6O _ _⟩|exact⟨a3Z _,a3Z _⟩|exact⟨bX _,bX _⟩
theorem d1G{a b c d e f:Int}(i:bJ c)(hd:bJ d)(j:bJ e)(g:bJ f):dB (mB a b c d e f):=by
 unfold mB
 repeat' split
 all_goals first|exact eF|exact⟨j,g⟩|exact⟨i,hd⟩| (unfold dB bJ at*;simp only;omega)
theorem e6B{a b c d e f s t u:Int}(h1:a<=s)(h2:s<=b)(h3:c<=t)(h4:t<=d)(i:e<=u)(g:u<=f):iC (mB a b c d e f) (if s≠0 then t else u):=by
 unfold mB
 rw [if_neg (by omega)];unfold contains
 split
 ·rw [if_neg (by omega)];exact⟨i,g⟩
 ·simp only [h0Y,decide_eq_true_eq];split
  ·split<;>(unfold iC;simp only;omega)
  ·rw [if_pos (by omega)];exact⟨h3,h4⟩
def nk(op:Int):Nat:=if 4<=op/\op<=19 then 2 else if op=20\/op=21 then 1 else if op=22 then 3 else 0
def ist(R:List (Int×Int))(n:Nd):Int×Int:=
 if n.op=1 then(n.im,n.im)
 else if n.op=22 then mB (R.getD (n.ks.getD 0 0).toNat (0,0)).1 (R.getD (n.ks.getD 0 0).toNat (0,0)).2 (R.getD (n.ks.getD 1 0).toNat (0,0)).1 (R.getD (n.ks.getD 1 0).toNat (0,0)).2 (R.getD (n.ks.getD 2 0).toNat (0,0)).1 (R.getD (n.ks.getD 2 0).toNat (0,0)).2
 else if n.op=20\/n.op=21 then iun n.op (R.getD (n.ks.getD 0 0).toNat (0,0)).1 (R.getD (n.ks.getD 0 0).toNat (0,0)).2
 else if 4<=n.op/\n.op<=19 then oT n.op (R.getD (n.ks.getD 0 0).toNat (0,0)).1 (R.getD (n.ks.getD 0 0).toNat (0,0)).2 (R.getD (n.ks.getD 1 0).toNat (0,0)).1 (R.getD (n.ks.getD 1 0).toNat (0,0)).2
 else(fK,fW)
theorem b5R: ∀R:List (Int×Int),(R.flatMap cR).length=R.length*2
 | []=>rfl
 |r::R=>by
  rw [h2P,h1E,b5R R,h1O];show 2+_=_;omega
theorem f3C: ∀{R:List (Int×Int)}{i:Nat}{a b:Int},i<R.length->(R.flatMap cR).take (i*2)++ [IV.int .i64 a,IV.int .i64 b]++(R.flatMap cR).drop (i*2+2)=(R.set i (a,b)).flatMap cR
 |r::R,0,a,b,_=>rfl
 |r::R,i+1,a,b,h=>by
  have g:=f3C (R:=R) (i:=i) (a:=a) (b:=b) (by simpa using h);rw [h8Y,h2P,h2P,<-g,show(i+1)*2=i*2+2 by omega];simp [cR]
theorem ldR{R:List (Int×Int)}{k o:Nat}{K:Int->Int->Prop}(h:k<R.length)(i:o=k*2)(j:K R[k].1 R[k].2):aK .i64 (R.flatMap cR) o fun a=>aK .i64 (R.flatMap cR) (o+1) fun b=>K a b:=by
 subst i;obtain⟨l,g⟩:=a3X h;unfold aK
 rw [l,g];simpa using j
theorem c1H(n:Nat):fF n [IV.bool false]=(List.replicate n false).map IV.bool:=by
 induction n with
 |zero=>rfl
 |succ n ih=>rw [h5X,h2H,<-ih];rfl
theorem e6C(n:Nat):fF n [IV.int .i64 0,IV.int .i64 0]=(List.replicate n ((0:Int),(0:Int))).flatMap cR:=by
 induction n with
 |zero=>rfl
 |succ n ih=>rw [h5X,h2P,<-ih];rfl
theorem jD{h:Heap}{n:Nat}{A:Prop}(e:h.get n= .free)(a:A):yY h n A:=by unfold yY;rw [e];exact a
theorem lG{cs:List IV}{g:Nat}{K:Bool->Prop}{b:Bool}(e:cs[g]?=some (.bool b))(i:K b):iS cs g K:=by
 unfold iS;rw [e];exact i
theorem e6D{a b:Prop}[Decidable a][Decidable b](h:a/\b):(decide a&&decide b)=true:=by
 rw [h0Y,decide_eq_true_eq,decide_eq_true_eq];exact h
end Go.M14
end
section
namespace Go.M14
open Go.Pv
variable {α:Type}
def cM(e:α->IV)(g:List (Int×α)):List (IV×IV):=g.map fun p=>(.int .i64 p.1,e p.2)
def kG(k:Int):List (Int×α)->Option α
 | []=>none
 | (x,v)::r=>if k=x then some v else kG k r
def upM(k:Int)(v:α):List (Int×α)->List (Int×α)
 | []=>[(k,v)]
 | (x,u)::r=>if k=x then(k,v)::r else(x,u)::upM k v r
theorem d5H(k x:Int):dO (.int .i64) (.int .i64 k) (.int .i64 x)=some (decide (k=x)):=by
 simp only [dO];rfl
theorem b1C(e:α->IV)(k:Int): ∀es,fU (.int .i64) (.int .i64 k) (cM e es)=some ((kG k es).map e)
 | []=>rfl
 | (x,v)::r=>by
  have g:=b1C e k r;unfold cM at g⊢;rw [h2H,fU,d5H,kG]
  by_cases h:k=x
  ·rw [if_pos h,decide_eq_true h];rfl
  ·rw [if_neg h,decide_eq_false h];exact g
theorem oE(e:α->IV)(k:Int)(v:α): ∀es,oK (.int .i64) (.int .i64 k) (e v) (cM e es)=some (cM e (upM k v es))
 | []=>rfl
 | (x,u)::r=>by
  have g:=oE e k v r;unfold cM at g⊢;rw [h2H,oK,d5H,upM]
  by_cases h:k=x
  ·rw [if_pos h,decide_eq_true h];rfl
  ·rw [if_neg h,decide_eq_false h];show Option.map _ (oK _ _ _ _)=_;rw [g];rfl
theorem qH(j k:Int)(v:α): ∀es,kG j (upM k v es)=if j=k then some v else kG j es
 | []=>rfl
 | (x,u)::r=>by
  have g:=qH j k v r;rw [upM]
  by_cases h:k=x
  ·subst h;rw [if_pos rfl,kG,kG]
   by_cases q:j=k
   ·rw [if_pos q,if_pos q]
   ·rw [if_neg q,if_neg q,if_neg q]
  ·rw [if_neg h,kG,g,kG]
   by_cases q:j=x
   ·rw [if_pos q,if_pos q,if_neg (by omega)]
   ·rw [if_neg q,if_neg q]
theorem cX{e:α->IV}{k:Int}{g:List (Int×α)}{v:α}(h:kG k g=some v):fU (.int .i64) (.int .i64 k) (cM e g)=some (some (e v)):=by rw [b1C,h];rfl
theorem eL{e:α->IV}{k:Int}{g:List (Int×α)}(h:kG k g=none):fU (.int .i64) (.int .i64 k) (cM e g)=some none:=by rw [b1C,h];rfl
theorem c6P(e:α->IV)(k:Int)(v:α)(z:IV): ∀es:List (Int×α),kG k es=none->nN (e v) (cM e es).length (cM e es++ [(.int .i64 k,z)])=cM e (upM k v es)
 | [],_=>rfl
 | (x,u)::r,h=>by
  rw [kG]at h
  by_cases q:k=x
  ·rw [if_pos q]at h;cases h
  ·rw [if_neg q]at h;have g:=c6P e k v z r h;rw [upM,if_neg q];unfold cM at g⊢;rw [h2H,h3E,h1O,nN,g];rfl
theorem c6Q(e:α->IV)(k:Int)(u v:α): ∀es:List (Int×α),kG k es=some u->kO (.int .i64) (.int .i64 k) (cM e es)< (cM e (upM k u es)).length/\nN (e v) (kO (.int .i64) (.int .i64 k) (cM e es)) (cM e (upM k u es))=cM e (upM k v es)
 | [],h=>by cases h
 | (x,w)::r,h=>by
  rw [kG]at h;rw [upM,upM];unfold cM
  rw [h2H,kO,d5H]
  by_cases q:k=x
  ·rw [if_pos q,if_pos q,decide_eq_true q];exact⟨by simp,rfl⟩
  ·rw [if_neg q]at h;rw [if_neg q,if_neg q,decide_eq_false q];obtain⟨g,i⟩:=c6Q e k u v r h;unfold cM at g i;refine⟨by simpa using g,?_⟩;rw [h2H,h2H];show nN (e v) (_+1) (_::_)=_;rw [nN,i]
theorem e6E(e:α->IV)(k:Int)(v:α)(z:IV)(g:List (Int×α)): ∃v0 n es1,a7J (.int .i64) (.int .i64 k) z (cM e g)=some (v0,n,es1)/\n<es1.length/\nN (e v) n es1=cM e (upM k v g):=by
 cases h:kG k g with
 |none=>
  refine⟨z,(cM e g).length,cM e g++ [(.int .i64 k,z)],?_,by simp,c6P e k v z g h⟩;unfold a7J
  rw [eL h]
 |some u=>
  obtain⟨j,i⟩:=c6Q e k u v g h;refine⟨e u,_,cM e (upM k u g),?_,j,i⟩;unfold a7J
  rw [cX h];simp only [oE,h4C]
theorem tO{h:Heap}{id:Nat}{e:α->IV}{k:Int}{l:List (Int×α)}{z:IV}{K:IV->Nat->List (IV×IV)->Prop}(v:α)(g:h.get id= .map (cM e l))(m: ∀j n i,n<i.length->nN (e v) n i=cM e (upM k v l)->K j n i):b4N h id (.int .i64) (.int .i64 k) z K:=by
 obtain⟨j,n,i,h1,h2,h3⟩:=e6E e k v z l;unfold b4N
 rw [g];simp only [h1];exact m j n i h2 h3
theorem qI{h:Heap}{id:Nat}{n:Nat}{v:IV}{i j:List (IV×IV)}{K:List (IV×IV)->Prop}(g:h.get id= .map i)(m:n<i.length)(e:nN v n i=j)(l:K j):a0M h id (n:Int) v K:=by
 unfold a0M
 rw [g];exact⟨⟨by omega,by omega⟩,by rw [h0Z,e];exact l⟩
theorem d5I{cs:List IV}{g:Nat}{A:Prop}{K:Nat->Prop}(e:cs[g]?=some .nilmap)(i:A):a2N cs g A K:=by
 unfold a2N;rw [e];exact i
theorem d5J{cs:List IV}{g i:Nat}{A:Prop}{K:Nat->Prop}(e:cs[g]?=some (.map i))(j:K i):a2N cs g A K:=by
 unfold a2N;rw [e];exact j
theorem a4A{n:Nat}{cs xs:List IV}{g:Nat}{K:List IV->Prop}(e:cs[g]?=some (.agg xs))(j:Nat.beq xs.length n=true)(i:K xs):a1B n cs g K:=by
 unfold a1B;rw [e];simp only [j];exact i
end Go.M14
end
section
namespace Go.M14
open Go.Pv Go.M13 Go.M15 Go.M10
abbrev Iv:=Int×Int
def aL:Iv:=(fK,fW)
def ijn(a b:Iv):Iv:=(min a.1 b.1,max a.2 b.2)
structure LV where
 v:Int
 f:Int
 n:Int
 d:Int
def bO(x:Nd)(j:Nat):LV:=⟨16*x.im+j,x.ks.getD j 0,x.ks.getD ((x.ks.length-1)/2+1+j) 0,x.ks.getD ((x.ks.length-1)/2) 0⟩
def gR(R:List Iv)(q:Int):Iv:=R.getD q.toNat (0,0)
def gU(U:List Bool)(q:Int):Bool:=U.getD q.toNat false
def tU(l:List Nd)(n:Nd):Nd:=l.getD (n.ks.getD 0 0).toNat default
def rst(l:List Nd)(s:Int)(kn:Int->Option Iv)(R:List Iv)(n:Nd):Iv:=
 if s≠1 then aL
 else if n.op=3 then(kn n.im).getD aL
 else if n.op=25 then ijn (gR R (bO (tU l n) n.im.toNat).f) (gR R (bO (tU l n) n.im.toNat).n)
 else ist R n
def ust(l:List Nd)(s:Int)(un:Int->Bool)(U:List Bool)(n:Nd):Bool:=
 if s≠1 then false
 else if n.op=3 then un n.im
 else if n.op=25 then gU U (bO (tU l n) n.im.toNat).f||gU U (bO (tU l n) n.im.toNat).n
 else decide (4<=n.op/\n.op<=22) &&n.ks.any (gU U)
def rP(l:List Nd)(kn:Int->Option Iv):Nat->List Iv
 |0=>[]
 |i+1=>rP l kn i++ [rst l ((aG l).getD i 0) kn (rP l kn i) (l.getD i default)]
def uP(l:List Nd)(un:Int->Bool):Nat->List Bool
 |0=>[]
 |i+1=>uP l un i++ [ust l ((aG l).getD i 0) un (uP l un i) (l.getD i default)]
def rG(l:List Nd)(kn:Int->Option Iv):List Iv:=rP l kn l.length
def uG(l:List Nd)(un:Int->Bool):List Bool:=uP l un l.length
theorem vF(l:List Nd)(kn:Int->Option Iv): ∀i,(rP l kn i).length=i
 |0=>rfl
 |i+1=>by rw [rP,h1E,vF l kn i];rfl
theorem d5K(l:List Nd)(un:Int->Bool): ∀i,(uP l un i).length=i
 |0=>rfl
 |i+1=>by rw [uP,h1E,d5K l un i];rfl
theorem lH(l:List Nd)(kn:Int->Option Iv):(rG l kn).length=l.length:=vF l kn _
theorem f3D(l:List Nd)(un:Int->Bool):(uG l un).length=l.length:=d5K l un _
theorem c1I(l:List Nd)(kn:Int->Option Iv)(i j:Nat):rP l kn i<+:rP l kn (i+j):=by
 induction j with
 |zero=>exact h4F _
 |succ j ih=>exact ih.trans (by show _<+:rP l kn (i+j)++_;exact h3Y _ _)
theorem g8U(l:List Nd)(un:Int->Bool)(i j:Nat):uP l un i<+:uP l un (i+j):=by
 induction j with
 |zero=>exact h4F _
 |succ j ih=>exact ih.trans (by show _<+:uP l un (i+j)++_;exact h3Y _ _)
theorem c1J{α:Type}{l y:List α}{z:α}(h:l<+:y){q:Nat}(hq:q<l.length):y.getD q z=l.getD q z:=by
 obtain⟨t,rfl⟩:=h;simp only [h1A];rw [h1Z hq]
theorem a1Y{α:Type}{l:List α}{z:α}{i q:Nat}(h:q<i):(l.take i).getD q z=l.getD q z:=by
 simp only [h1A];rw [h3L h]
theorem cQ{α:Type}{l:List α}{z:α}{q:Nat}(h:q<l.length):l.getD q z=l[q]:=by
 rw [h1A,h0U h];rfl
theorem c6S{l:List Nd}{i:Nat}(u:i<l.length)(h:(aG l).getD i 0≠0):(∀q∈l[i].ks,0<=q/\q<i/\(aG l).getD q.toNat 0≠0)/\(aG l).getD i 0=bQ (eK l l[i]) l[i].op l[i].im (l[i].ks.map fun q=>(aG l).getD q.toNat 0):=by
 have e:=mH (h0U u);unfold cC at e;split at e
 ·rename_i p;have j: ∀q∈l[i].ks,0<=q/\q<i/\(aG (l.take i)).getD q.toNat 0≠0:=fun q g=>by
   have:=qF (h2L.1 p q g);rw [bD,h1Y]at this;exact⟨this.1,by omega,this.2.2⟩
  have m: ∀q∈l[i].ks,(aG (l.take i)).getD q.toNat 0=(aG l).getD q.toNat 0:=fun q g=>by
   have:=j q g;exact(sC (jZ (h5S i l)) (by rw [bD,h1Y];omega)).symm
  have z:(l[i].ks.map fun q=>(aG (l.take i)).getD q.toNat 0)=l[i].ks.map fun q=>(aG l).getD q.toNat 0:=h5B m
  refine⟨fun q g=>⟨(j q g).1,(j q g).2.1,by rw [<-m q g];exact(j q g).2.2⟩,?_⟩;rw [e,z];refine a3M fun h3=>?_
  unfold eK
  have:l[i].ks≠[]:=fun y=>by rw [y]at h3;cases h3
  have g:l[i].ks.getD 0 0∈l[i].ks:=by
   match hk:l[i].ks,this with
   |a::r,_=>exact h2C
  have:=j _ g;rw [oV (by omega)]
 ·exact absurd e h
theorem d5L{op im:Int}{k:List Int}(h:fH op im k≠0):oU op=true/\(k.length:Int)=ar op/\lB op im=true:=by
 unfold fH at h;split at h
 ·exact absurd rfl h
 ·rename_i c;simp only [not_or,Bool.not_eq_false,ne_eq,Decidable.not_not]at c;exact c
structure LpOk(l:List Nd)(i:Nat):Prop where
 lt:i<l.length
 ks: ∀q∈ (l.getD i default).ks,0<=q/\q<i/\(aG l).getD q.toNat 0≠0
 op:(l.getD i default).op=31
 im:0<=(l.getD i default).im/\(l.getD i default).im<=15
 odd:(l.getD i default).ks.length%2=1/\3<=(l.getD i default).ks.length/\(l.getD i default).ks.length<=33
 ss:((l.getD i default).ks.map fun q=>(aG l).getD q.toNat 0)=lsL ((l.getD i default).ks.length/2)
theorem sG{l:List Nd}{i:Nat}(h:(aG l).getD i 0=3):LpOk l i:=by
 have g:=zF h;have j:=g.1;obtain⟨h1,h2⟩:=c6S j (by omega);rw [h]at h2;obtain⟨h3,h4⟩:=a3K h2.symm;have m:=sD h4;rw [h1P]at m;rw [cQ j]at g;refine⟨j,?_,?_,?_,?_,?_⟩
 all_goals rw [cQ j]
 ·exact h1
 ·exact h3
 ·unfold bQ at h2;rw [if_pos h3]at h2;split at h2
  ·rename_i c;have:=c.2;unfold lB at this;rw [decide_eq_true_eq]at this;have e:mxI 31=15:=by decide
   omega
  ·omega
 ·exact⟨m.1,g.2⟩
 ·exact m.2.2.2
theorem zJ{l:List Nd}{i:Nat}(r:i<l.length)(h:(aG l).getD i 0=1):(∀q∈l[i].ks,0<=q/\q<i/\(aG l).getD q.toNat 0≠0)/\
  ((l[i].op=25/\∃q:Int,l[i].ks=[q]/\(0<=q/\q<i)/\(aG l).getD q.toNat 0=3/\1<=l[i].im/\l[i].im<=15/\2*l[i].im+3<=((l.getD q.toNat default).ks.length:Int)) \/
   (l[i].op≠25/\l[i].op≠30/\l[i].op≠31/\(l[i].ks.length:Int)=ar l[i].op/\lB l[i].op l[i].im=true)):=by
 obtain⟨h1,h2⟩:=c6S r (by omega);refine⟨h1,?_⟩;rw [h]at h2;unfold bQ at h2;split at h2
 ·split at h2<;>omega
 split at h2
 ·split at h2<;>omega
 split at h2
 ·rename_i m j g;split at h2
  ·rename_i c;have y:l[i].ks.length=1:=by have:=congrArg List.length c.1;rw [h1P]at this;exact this
   match hk:l[i].ks,y with
   | [q],_=>
    have p:=h1 q (by rw [hk];exact h2C);rw [hk]at c;have e:eK l l[i]=(l.getD q.toNat default).ks.length:=by unfold eK;rw [hk];rfl
    rw [e]at c;have u:(aG l).getD q.toNat 0=3:=by
     have:=c.1;rw [h2H,h4D,h2I]at this;exact this.1
    refine .inl ⟨g,q,rfl,⟨p.1,p.2.1⟩,u,?_,c.2.2.1,c.2.2.2⟩;split at h2
    ·omega
    ·have:=c.2.1;omega
  ·omega
 ·rename_i m j g;have:=d5L (show fH l[i].op l[i].im _≠0 by rw [<-h2];decide);rw [h1P]at this;exact .inr ⟨g,j,m,this.2.1,this.2.2⟩
theorem c1K{l:List Nd}{i:Nat}(g:i<l.length)(h:(aG l).getD i 0=1):nk l[i].op<=l[i].ks.length:=by
 rcases(zJ g h).2 with⟨o,_⟩| ⟨p,j,m,h1,_⟩
 ·unfold nk;rw [if_neg (by omega),if_neg (by omega),if_neg (by omega)];exact h1N _
 ·unfold ar at h1;unfold nk
  split
  ·rw [if_neg (by omega),if_neg (by omega),if_pos (by omega)]at h1;omega
  split
  ·rw [if_neg (by omega),if_pos (by omega)]at h1;omega
  split
  ·rw [if_neg (by omega),if_neg (by omega),if_neg (by omega),if_pos (by omega)]at h1;omega
  ·exact h1N _
theorem a4B{l:List Int}{j:Nat}{z:Int}(h:j<l.length):l.getD j z∈l:=by rw [cQ h];exact h1B h
theorem b5S{l:List Nd}{q j:Nat}(h:LpOk l q)(p:j< (l.getD q default).ks.length/2):(0<=(bO (l.getD q default) j).f/\(bO (l.getD q default) j).f<q)/\(0<=(bO (l.getD q default) j).n/\(bO (l.getD q default) j).n<q)/\(0<=(bO (l.getD q default) j).d/\(bO (l.getD q default) j).d<q):=by
 have h2:=h.odd;have g: ∀m,m< (l.getD q default).ks.length->0<=(l.getD q default).ks.getD m 0/\(l.getD q default).ks.getD m 0<q:=fun m i=>by
  have:=h.ks _ (a4B (z:=0) i);exact⟨this.1,this.2.1⟩
 exact⟨g _ (by omega),g _ (by omega),g _ (by omega)⟩
theorem d1H{R S:List Iv}{n:Nd}{i:Nat}(m: ∀q∈n.ks,0<=q/\q<i)(l:nk n.op<=n.ks.length)(h: ∀q,q<i->R.getD q (0,0)=S.getD q (0,0)):ist R n=ist S n:=by
 have g: ∀j,j<n.ks.length->R.getD (n.ks.getD j 0).toNat (0,0)=S.getD (n.ks.getD j 0).toNat (0,0):=fun j p=>by
  have:=m _ (a4B (z:=0) p);exact h _ (by omega)
 unfold nk at l;unfold ist
 split
 ·rfl
 split
 ·rw [if_neg (by omega),if_neg (by omega),if_pos (by omega)]at l;rw [g 0 (by omega),g 1 (by omega),g 2 (by omega)]
 split
 ·rw [if_neg (by omega),if_pos (by omega)]at l;rw [g 0 (by omega)]
 split
 ·rw [if_pos (by omega)]at l;rw [g 0 (by omega),g 1 (by omega)]
 ·rfl
theorem a8V{l:List Nd}{i:Nat}(r:i<l.length){kn:Int->Option Iv}{R S:List Iv}(h: ∀q,q<i->R.getD q (0,0)=S.getD q (0,0)):rst l ((aG l).getD i 0) kn R l[i]=rst l ((aG l).getD i 0) kn S l[i]:=by
 unfold rst
 by_cases hs:(aG l).getD i 0=1
 ·rw [if_neg (show¬ ((aG l).getD i 0≠1)from fun c=>c hs),if_neg (show¬ ((aG l).getD i 0≠1)from fun c=>c hs)];obtain⟨h1,h2⟩:=zJ r hs;split
  ·rfl
  split
  ·rename_i p;rcases h2 with⟨_,q,e,g,h3,A,z,D⟩| ⟨m,_⟩
   ·have u:tU l l[i]=l.getD q.toNat default:=by unfold tU;rw [e];rfl
    have y:=(sG h3).odd;obtain⟨a,b,_⟩:=b5S (j:=l[i].im.toNat) (sG h3) (by omega);rw [u];unfold gR
    rw [h _ (by omega),h _ (by omega)]
   ·exact absurd p m
  ·exact d1H (i:=i) (fun q g=>⟨(h1 q g).1,(h1 q g).2.1⟩) (c1K r hs) h
 ·rw [if_pos (show(aG l).getD i 0≠1 from hs),if_pos (show(aG l).getD i 0≠1 from hs)]
theorem d1I{l:List Nd}{i:Nat}(y:i<l.length){un:Int->Bool}{U V:List Bool}(h: ∀q,q<i->U.getD q false=V.getD q false):ust l ((aG l).getD i 0) un U l[i]=ust l ((aG l).getD i 0) un V l[i]:=by
 unfold ust
 by_cases hs:(aG l).getD i 0=1
 ·rw [if_neg (show¬ ((aG l).getD i 0≠1)from fun c=>c hs),if_neg (show¬ ((aG l).getD i 0≠1)from fun c=>c hs)];obtain⟨h1,h2⟩:=zJ y hs;split
  ·rfl
  split
  ·rename_i p;rcases h2 with⟨_,q,e,g,h3,G,D,K⟩| ⟨m,_⟩
   ·have z:tU l l[i]=l.getD q.toNat default:=by unfold tU;rw [e];rfl
    have A:=(sG h3).odd;obtain⟨a,b,_⟩:=b5S (j:=l[i].im.toNat) (sG h3) (by omega);rw [z];unfold gU
    rw [h _ (by omega),h _ (by omega)]
   ·exact absurd p m
  ·congr 1
   have: ∀x:List Int,(∀q∈x,0<=q/\q<i)->x.any (gU U)=x.any (gU V):=fun x=>by
    induction x with
    |nil=>intro _;rfl
    |cons a r ih=>
     intro u;rw [h7K,h7K,ih fun q g=>u q (h2N _ g)]
     congr 1
     have:=u a h2C;exact h _ (by omega)
   exact this _ fun q g=>⟨(h1 q g).1,(h1 q g).2.1⟩
 ·rw [if_pos (show(aG l).getD i 0≠1 from hs),if_pos (show(aG l).getD i 0≠1 from hs)]
theorem g1I{l:List Nd}{kn:Int->Option Iv}{i:Nat}(g:i<l.length):(rG l kn).getD i (0,0)=rst l ((aG l).getD i 0) kn (rG l kn) l[i]:=by
 have j:rP l kn (i+1)<+:rG l kn:=by
  have:=c1I l kn (i+1) (l.length- (i+1))
  rwa [show i+1+(l.length- (i+1))=l.length by omega]at this
 have m:rP l kn i<+:rG l kn:=(by have:=c1I l kn i 1;exact this:rP l kn i<+:rP l kn (i+1)).trans j;rw [c1J j (by rw [vF];omega),rP,h1A,h1V (by rw [vF];exact h1D _),vF,h6E,cQ g];exact a8V g fun q p=>(c1J m (by rw [vF];exact p)).symm
theorem i0A{l:List Nd}{un:Int->Bool}{i:Nat}(g:i<l.length):(uG l un).getD i false=ust l ((aG l).getD i 0) un (uG l un) l[i]:=by
 have j:uP l un (i+1)<+:uG l un:=by
  have:=g8U l un (i+1) (l.length- (i+1))
  rwa [show i+1+(l.length- (i+1))=l.length by omega]at this
 have m:uP l un i<+:uG l un:=(by have:=g8U l un i 1;exact this:uP l un i<+:uP l un (i+1)).trans j;rw [c1J j (by rw [d5K];omega),uP,h1A,h1V (by rw [d5K];exact h1D _),d5K,h6E,cQ g];exact d1I g fun q p=>(c1J m (by rw [d5K];exact p)).symm
def zK(x:LV):List IV:=[.int .i64 x.v,.int .i64 x.f,.int .i64 x.n,.int .i64 x.d]
def nS(p:Int×Iv):List IV:=[.int .i64 p.1,.int .i64 p.2.1,.int .i64 p.2.2]
def eI(r:Iv):IV:= .agg [.int .i64 r.1,.int .i64 r.2]
def eV(x:LV):IV:= .agg [.int .i64 x.v,.int .i64 x.f,.int .i64 x.n,.int .i64 x.d]
def c6T(n:Nd):List LV:=(List.range (n.ks.length/2-1)).map fun j=>bO n (j+1)
def snP(l:List Nd):Nat->Int->Bool
 |0,_=>false
 |i+1,v=>snP l i v|| (decide ((aG l).getD i 0=3) &&decide ((l.getD i default).im=v))
def lvP(l:List Nd):Nat->List LV
 |0=>[]
 |i+1=>lvP l i++(if(aG l).getD i 0=3/\snP l i (l.getD i default).im=false then c6T (l.getD i default)else [])
def aO(l:List Nd):List LV:=lvP l l.length
def Keep.sbC(l:List Nd)(i:Nat):List IV:=(List.range 16).map fun(v:Nat)=>IV.bool (snP l i (v:Int))
theorem b1D(l:List Nd)(i:Nat):(Keep.sbC l i).length=16:=by unfold Keep.sbC;rw [h1P,h5I]
theorem zL{l:List Nd}{i v:Nat}(h:v<16):(Keep.sbC l i)[v]?=some (.bool (snP l i (v:Int))):=by
 unfold Keep.sbC
 rw [h2A,h5W h];rfl
theorem e6F{l:List Nd}{i v:Nat}(h3:(aG l).getD i 0=3)(g:(l.getD i default).im=(v:Int))(h:v<16):(Keep.sbC l i).take v++ [IV.bool true]++(Keep.sbC l i).drop (v+1)=Keep.sbC l (i+1):=by
 refine h3T fun j=>?_
 have m:=b1D l i;rcases Nat.lt_trichotomy j v with c|c|c
 ·rw [h2V,h1Z (by rw [h1Y];omega),h3L c,zL (by omega),zL (by omega),snP,h3,g];rw [decide_eq_false (show¬ ((v:Int)=(j:Int)) by omega),h5M,h5E]
 ·subst c;rw [h2V,h1V (by rw [h1Y];omega),h1Y,show j-min j (Keep.sbC l i).length=0 by omega,zL h,snP,h3,g];simp
 ·rw [h1V (by simp;omega)];have:(List.take v (Keep.sbC l i)++ [IV.bool true]).length=v+1:=by simp;omega
  rw [this,h4N,show v+1+(j- (v+1))=j by omega];rcases h2D j 16 with q|q
  ·rw [zL q,zL q,snP,h3,g,decide_eq_false (show¬ ((v:Int)=(j:Int)) by omega),h5M,h5E]
  ·rw [h2E (by omega),h2E (by rw [b1D];exact q)]
theorem a4D{l:List Nd}{i:Nat}(h: ¬ ((aG l).getD i 0=3/\snP l i (l.getD i default).im=false)):snP l (i+1)=snP l i/\lvP l (i+1)=lvP l i:=by
 refine⟨funext fun v=>?_,by rw [lvP,if_neg h,h3V]⟩;rw [snP]
 by_cases h3:(aG l).getD i 0=3
 ·by_cases hv:(l.getD i default).im=v
  ·have:snP l i (l.getD i default).im=true:=by
    cases e:snP l i (l.getD i default).im
    ·exact absurd ⟨h3,e⟩ h
    ·rfl
   rw [<-hv,this,h7A]
  ·rw [decide_eq_false hv,h5M,h5E]
 ·rw [decide_eq_false h3,h3Z,h5E]
theorem b5T{l:List Nd}{i:Nat}(h: ¬ ((aG l).getD i 0=3/\snP l i (l.getD i default).im=false)):Keep.sbC l (i+1)=Keep.sbC l i:=by
 unfold Keep.sbC
 rw [(a4D h).1]
def a7A(n:Nd)(j:Nat):List LV:=(List.range (j-1)).map fun q=>bO n (q+1)
theorem d1J{n:Nd}{j:Nat}(h:1<=j):a7A n (j+1)=a7A n j++ [bO n j]:=by
 unfold a7A
 rw [show j+1-1=(j-1)+1 by omega,List.range_succ,h3O,List.map_singleton,show j-1+1=j by omega]
theorem d5M{l:List Nd}{i:Nat}(h:(aG l).getD i 0=3/\snP l i (l.getD i default).im=false):lvP l (i+1)=lvP l i++a7A (l.getD i default) ((l.getD i default).ks.length/2):=by
 rw [lvP,if_pos h];rfl
theorem d5N(l:List Nd): ∀i:Nat,(lvP l i).length<=16*i:=fun i=>by
 induction i with
 |zero=>exact h1D _
 |succ i ih=>
  rw [lvP,h1E];split
  ·rename_i c;have h1:(c6T (l.getD i default)).length=(l.getD i default).ks.length/2-1:=by unfold c6T;rw [h1P,h5I]
   have h2:=(sG c.1).odd;omega
  ·rw [h1U];omega
theorem a8W: ∀L:List LV,aN (L.flatMap zK)=true
 | []=>rfl
 |x::r=>by
  rw [h2P,bG,a8W r,h1L];rfl
theorem e4G: ∀L:List (Int×Iv),(L.flatMap nS).length=L.length*3
 | []=>rfl
 |r::R=>by
  rw [h2P,h1E,e4G R,h1O];show 3+_=_;omega
theorem oY: ∀L:List (Int×Iv),aN (L.flatMap nS)=true
 | []=>rfl
 |x::r=>by
  rw [h2P,bG,oY r,h1L];rfl
theorem gN: ∀{L:List LV}{i:Nat}(h:i<L.length)(j:Nat),j<4->(L.flatMap zK)[i*4+j]?=(zK L[i])[j]?
 |x::r,0,_,j,hj=>by
  rw [h2P,h1Z (by show 0*4+j<4;omega)];simp
 |x::r,i+1,h,j,hj=>by
  rw [h2P,h1V (by show 4<=(i+1)*4+j;omega)];have:(i+1)*4+j- (zK x).length=i*4+j:=by show(i+1)*4+j-4=_;omega
  rw [this,gN (by simpa using h) j hj];rfl
theorem vG: ∀{L:List (Int×Iv)}{i:Nat}(h:i<L.length)(j:Nat),j<3->(L.flatMap nS)[i*3+j]?=(nS L[i])[j]?
 |x::r,0,_,j,hj=>by
  rw [h2P,h1Z (by show 0*3+j<3;omega)];simp
 |x::r,i+1,h,j,hj=>by
  rw [h2P,h1V (by show 3<=(i+1)*3+j;omega)];have:(i+1)*3+j- (nS x).length=i*3+j:=by show(i+1)*3+j-3=_;omega
  rw [this,vG (by simpa using h) j hj];rfl
abbrev IvC:=List (Int×Iv)
def lP(C:List (Int×Iv))(k:Int):Option Iv:=match C.find? (fun p=>decide (p.1=k))with
 |some p=>if p.2.1<=p.2.2 then some p.2 else none
 |none=>none
def lI(C:List (Int×Iv))(k:Int):Bool:=C.any fun p=>decide (p.1=k)
theorem zM(k:Int): ∀C:List (Int×Iv),(C.find? (fun p=>decide (p.1=k))).isSome=lI C k
 | []=>rfl
 |p::r=>by
  have g:=zM k r;unfold lI at g⊢;rw [List.find?_cons,h7K]
  cases decide (p.1=k)
  ·rw [h4S,<-g]
  ·rfl
theorem b5U(C:List (Int×Iv))(p:Int×Iv)(k:Int):lP (C++ [p]) k=if lI C k=true then lP C k else if p.1=k/\p.2.1<=p.2.2 then some p.2 else none:=by
 unfold lP
 rw [List.find?_append,<-zM]
 cases h:C.find? (fun p=>decide (p.1=k))with
 |some q=>rfl
 |none=>
  rw [Option.none_or,List.find?_cons];simp only [h3S,h1X,if_false]
  by_cases e:p.1=k
  ·rw [decide_eq_true e];simp only [e,true_and]
  ·rw [decide_eq_false e];simp only [e,false_and,if_false];rfl
theorem d1K(C:List (Int×Iv))(p:Int×Iv)(k:Int):lI (C++ [p]) k=(lI C k||decide (p.1=k)):=by
 unfold lI
 rw [List.any_append];simp
theorem b5V{C:List (Int×Iv)}{k:Int}(h:lI C k=false):lP C k=none:=by
 rw [<-zM]at h;unfold lP
 cases e:C.find? (fun p=>decide (p.1=k))with
 |none=>rfl
 |some q=>rw [e]at h;cases h
theorem d5O{C:List (Int×Iv)}{p:Int×Iv}{i:List (Int×Iv)}(h: ∀k,kG k i=lP C k)(g:lI C p.1=true\/ ¬p.2.1<=p.2.2): ∀k,kG k i=lP (C++ [p]) k:=fun k=>by
 rw [h,b5U]
 cases e:lI C k
 ·rw [if_neg (by decide),b5V e,if_neg];rintro⟨rfl,q⟩;rcases g with g|g
  ·rw [g]at e;cases e
  ·exact g q
 ·rw [if_pos rfl]
theorem d1L{C:List (Int×Iv)}{p:Int×Iv}{g:List (Int×Iv)}(h: ∀k,kG k g=lP C k)(h1:lI C p.1=false)(h2:p.2.1<=p.2.2): ∀k,kG k (upM p.1 p.2 g)=lP (C++ [p]) k:=fun k=>by
 rw [qH,h,b5U]
 by_cases e:k=p.1
 ·rw [if_pos e,e,h1,if_neg (by decide),if_pos ⟨rfl,h2⟩]
 ·rw [if_neg e]
  cases e2:lI C k
  ·rw [if_neg (by decide),b5V e2,if_neg (fun q=>e q.1.symm)]
  ·rw [if_pos rfl]
theorem tP{C:List (Int×Iv)}{p:Int×Iv}{g:List (Int×Bool)}(h: ∀k,kG k g=if lI C k=true then some true else none): ∀k,kG k (upM p.1 true g)=if lI (C++ [p]) k=true then some true else none:=fun k=>by
 rw [qH,h,d1K]
 by_cases e:k=p.1
 ·rw [if_pos e,decide_eq_true e.symm,Bool.or_true,if_pos rfl]
 ·rw [if_neg e,decide_eq_false (fun q=>e q.symm),h5E]
def upB(n:Int)(s:Bool):Iv×Bool:=if s=true/\n=fK then((0,0),false)else((fK,n- (if s=true then 1 else 0)),true)
def frB(n:Int)(s:Bool):Iv×Bool:=if s=true/\n=fW then((0,0),false)else((n+(if s=true then 1 else 0),fW),true)
def d1M(q w:Iv):Iv×Bool:=(cP q.1 q.2 w.1 w.2,dU q.1 q.2 w.1 w.2)
def mC(l:List Nd)(x:LV)(q:Iv)(R:List Iv):Iv×Bool:=
 if(l.getD x.d.toNat default).op≠17/\(l.getD x.d.toNat default).op≠18/\(l.getD x.d.toNat default).op≠19 then(q,true)
 else if(l.getD x.d.toNat default).op=19 then
  (if(l.getD x.d.toNat default).ks.getD 0 0≠x.n\/ (gR R ((l.getD x.d.toNat default).ks.getD 1 0)).1<0 then(q,true)else d1M q (0,IntKind.i64.wrap ((gR R ((l.getD x.d.toNat default).ks.getD 1 0)).2-1)))
 else if(l.getD x.d.toNat default).ks.getD 0 0=x.n then
  (if(upB (gR R ((l.getD x.d.toNat default).ks.getD 1 0)).2 ((l.getD x.d.toNat default).op==17)).2=true then d1M q (upB (gR R ((l.getD x.d.toNat default).ks.getD 1 0)).2 ((l.getD x.d.toNat default).op==17)).1 else((0,0),false))
 else if(l.getD x.d.toNat default).ks.getD 1 0=x.n then
  (if(frB (gR R ((l.getD x.d.toNat default).ks.getD 0 0)).1 ((l.getD x.d.toNat default).op==17)).2=true then d1M q (frB (gR R ((l.getD x.d.toNat default).ks.getD 0 0)).1 ((l.getD x.d.toNat default).op==17)).1 else((0,0),false))
 else(q,true)
def pO(old:Option Iv)(r:Nat)(y:Iv):Iv:=match old with
 |some o=>if 3<r then(wlo o.1 (min o.1 y.1),whi o.2 (max o.2 y.2))else y
 |none=>y
def joG(a:Option Iv)(y:Iv):Option Iv:=match a with
 |some o=>some (ijn o y)
 |none=>some y
def sH(l:List Nd)(kn:Int->Option Iv)(un:Int->Bool)(x:LV)(r:Nat):Option Iv:=
 let j1:=if gU (uG l un) x.f=true then kn x.v else joG (kn x.v) (pO (kn x.v) r (gR (rG l kn) x.f))
 if gU (uG l un) x.n=true then j1
 else
  let p:=if r<=12/\gU (uG l un) x.d=false then mC l x (pO (kn x.v) r (gR (rG l kn) x.n)) (rG l kn)else(pO (kn x.v) r (gR (rG l kn) x.n),true)
  if p.2=true then joG j1 p.1 else j1
def tV(l:List Nd)(kn:Int->Option Iv)(un:Int->Bool)(x:LV)(r:Nat):Option Iv:=match sH l kn un x r with
 |none=>none
 |some y=>if kn x.v=some y then none else some y
def unG(vs:List LV)(kn:Int->Option Iv)(v:Int):Bool:=vs.any (fun x=>decide (x.v=v)) && (kn v).isNone
def zN(kn:Int->Option Iv)(v:Int)(r:Iv):Int->Option Iv:=fun w=>if w=v then some r else kn w
def xM(l:List Nd)(vs:List LV)(r:Nat)(a:(Int->Option Iv) ×Bool)(x:LV):(Int->Option Iv) ×Bool:=
 match sH l a.1 (unG vs a.1) x r with
 |none=>a
 |some y=>if a.1 x.v=some y then a else(zN a.1 x.v y,true)
def fM(l:List Nd)(vs:List LV):Nat->(Int->Option Iv) ×Bool
 |0=>(fun _=>none,true)
 |n+1=>vs.foldl (xM l vs (n+1)) ((fM l vs n).1,false)
def qJ(vs:List LV)(kn:Int->Option Iv):List (Int×Iv):=vs.filterMap fun x=>(kn x.v).map fun r=>(x.v,r)
def OvS(g:Heap)(i:IV)(L:List LV):Prop:=(i= .nilslice/\L=[]) \/ ∃io,i= .vslice (some io) (L.length*4) L.length 4 (L.flatMap zK)/\g.get io= .tip (L.length*4)
theorem OvS.app{g:Heap}{j:IV}{L:List LV}{x:LV}{cs:List IV}{K:Nat->Nat->Nat->List IV->Heap->Prop}(h:OvS g j L)(i:cs=zK x)(r:L.length<=2000000)(l: ∀id e n c g2,OvS g2 (.vslice (some id) e n 4 c) (L++ [x])->K id e n c g2):qT g 4 32 j 1 cs K:=by
 rcases h with⟨rfl,rfl⟩| ⟨m,rfl,p⟩
 ·exact⟨by decide,l _ _ _ _ _ (.inr ⟨g.next,by rw [i];rfl,aR⟩)⟩
 ·refine⟨⟨rfl,by omega,p⟩,l _ _ _ _ _ (.inr ⟨m,?_,?_⟩)⟩
  ·rw [i,h1E,h3M];simp only [h1O,h1U,h2P,h7Z,h3V];rw [show(L.length+(0+1))*4=L.length*4+1*4 by omega]
  ·rw [aH,h1E];simp only [h1O,h1U]
   congr 1
   omega
def KOk(kn:Int->Option Iv):Prop:= ∀v r,kn v=some r->r.1<=r.2/\dB r
theorem f3E{R:List Iv}{n:Nd}(z:bJ n.im)(m:nk n.op<=n.ks.length)(h: ∀j,j<n.ks.length->(R.getD (n.ks.getD j 0).toNat (0,0)).1<=(R.getD (n.ks.getD j 0).toNat (0,0)).2/\dB (R.getD (n.ks.getD j 0).toNat (0,0))):(ist R n).1<=(ist R n).2/\dB (ist R n):=by
 have D:fK<=fW/\dB (fK,fW):=⟨by unfold fK fW;omega,eF⟩;have u: ∀{r:Iv}{x:Int},iC r x->r.1<=r.2:=fun q=>Int.le_trans q.1 q.2
 unfold nk at m;unfold ist
 split
 ·exact⟨h3P _,z,z⟩
 split
 ·rw [if_neg (by omega),if_neg (by omega),if_pos (by omega)]at m;obtain⟨l,g⟩:=h 0 (by omega);obtain⟨p,i⟩:=h 1 (by omega);obtain⟨A,y⟩:=h 2 (by omega);exact⟨u (e6B (h3P _) l (h3P _) p (h3P _) A),d1G i.1 i.2 y.1 y.2⟩
 split
 ·rename_i c;rw [if_neg (by omega),if_pos (by omega)]at m;obtain⟨l,g⟩:=h 0 (by omega);exact⟨u (g0T c (h3P _) l g.1 g.2),d5G g.1 g.2⟩
 split
 ·rename_i c;rw [if_pos (by omega)]at m;obtain⟨l,g⟩:=h 0 (by omega);obtain⟨p,i⟩:=h 1 (by omega);exact⟨u (f2P c (h3P _) l (h3P _) p g.1 g.2 i.1 i.2),d1F g.1 g.2 i.1 i.2⟩
 ·exact D
theorem d5P{a b:Iv}(g:a.1<=a.2/\dB a)(i:b.1<=b.2/\dB b):(ijn a b).1<=(ijn a b).2/\dB (ijn a b):=by
 unfold ijn dB bJ at*
 dsimp only;omega
theorem a4E{l:List Nd}{kn:Int->Option Iv}(A: ∀n∈l,bJ n.im)(m:KOk kn): ∀i,i<l.length->((rG l kn).getD i (0,0)).1<=((rG l kn).getD i (0,0)).2/\dB ((rG l kn).getD i (0,0)):=by
 intro i
 induction i using Nat.strongRecOn with
 |ind i ih=>
  intro g;have y:aL.1<=aL.2/\dB aL:=⟨by show fK<=fW;unfold fK fW;omega,eF⟩;rw [g1I g];unfold rst
  by_cases hs:(aG l).getD i 0=1
  case neg=>rw [if_pos hs];exact y
  rw [if_neg (show¬ ((aG l).getD i 0≠1)from fun c=>c hs)];obtain⟨h1,h2⟩:=zJ g hs;split
  ·cases e:kn l[i].im with
   |none=>exact y
   |some r=>exact m _ _ e
  split
  ·rename_i p;rcases h2 with⟨_,q,e,G,h3,O,L,T⟩| ⟨u,_⟩
   ·have m:tU l l[i]=l.getD q.toNat default:=by unfold tU;rw [e];rfl
    have K:=(sG h3).odd;obtain⟨a,b,_⟩:=b5S (j:=l[i].im.toNat) (sG h3) (by omega);rw [m];exact d5P (ih _ (by omega) (by omega)) (ih _ (by omega) (by omega))
   ·exact absurd p u
  ·refine f3E (A _ (h1B g)) (c1K g hs) fun j D=>?_
   have:=h1 _ (a4B (z:=0) D);exact ih _ (by omega) (by omega)
theorem g1J{l:List Nd}{kn:Int->Option Iv}{i q:Nat}(j:i<=l.length)(g:q<i):(rP l kn i).getD q (0,0)=(rG l kn).getD q (0,0):=by
 have:=c1I l kn i (l.length-i);rw [show i+(l.length-i)=l.length by omega]at this;exact(c1J this (by rw [vF];exact g)).symm
def IVg(l:List Nd)(kn:Int->Option Iv)(un:Int->Bool)(i:Nat)(g:Heap)(m p:Nat)(R:List Iv)(U:List Bool)(h:Heap):Prop:=
 (i<=l.length/\R.length=l.length/\U.length=l.length/\R.take i=rP l kn i/\U.take i=uP l un i/\∀q,i<=q->U.getD q false=false)/\
 (g.get m= .cells (R.flatMap cR)/\g.get p= .cells (U.map IV.bool))/\(h.next<=m/\h.next<=p/\m≠p/\m<g.next/\p<g.next)/\∀j,j<h.next->g.get j=h.get j
theorem zO{α:Type}{L:List α}{i q:Nat}{x z:α}(h:q≠i):(L.set i x).getD q z=L.getD q z:=by
 simp only [h1A];rw [List.getElem?_set_ne (by omega)]
theorem IVg.step{l:List Nd}{kn:Int->Option Iv}{un:Int->Bool}{i:Nat}{g:Heap}{z p:Nat}{R:List Iv}{U:List Bool}{h:Heap}(L:IVg l kn un i g z p R U h)(m:i<l.length){x r:Iv}{u:Bool}{g2:Heap}{D:List Iv}{A:List Bool}
  (eR:g2.get z= .cells (D.flatMap cR)) (eU:g2.get p= .cells (A.map IV.bool)) (h2R:D=R.set i r) (h2U:A=U.set i u) (er:r=rst l ((aG l).getD i 0) kn (R.set i x) l[i]) (eu:u=ust l ((aG l).getD i 0) un U l[i]) (nx:g2.next=g.next) (fr: ∀j,j≠z->j≠p->g2.get j=g.get j):IVg l kn un (i+1) g2 z p D A h:=by
 obtain⟨⟨a1,V,G,Z,Y,a6⟩,⟨b1,b2⟩,⟨c1,O,T,c4,K⟩,d⟩:=L;refine⟨⟨m,by rw [h2R,h3R];exact V,by rw [h2U,h3R];exact G,?_,?_,fun q y=>?_⟩,⟨eR,eU⟩,⟨c1,O,T,by rw [nx];exact c4,by rw [nx];exact K⟩,fun j X=>(fr j (by omega) (by omega)).trans (d j X)⟩
 ·rw [h2R,rP,<-Z,h1J (by rw [h3R];omega),h8P,h8X (h1D _),cQ m,er]
  congr 2
  exact a8V m fun q y=>by rw [zO (by omega),a1Y y]
 ·rw [h2U,uP,<-Y,h1J (by rw [h3R];omega),h8P,h8X (h1D _),cQ m,eu]
  congr 2
  exact d1I m fun q y=>by rw [a1Y y]
 ·rw [h2U,zO (by omega)];exact a6 q (by omega)
theorem e5Z{U:List Bool}{i:Nat}{b:Bool}(h:i<U.length):(U.map IV.bool).take i++ [IV.bool b]++(U.map IV.bool).drop (i+1)=(U.set i b).map IV.bool:=by
 rw [h4Y,if_pos h,h3O,h2H,h6P,h8T,h2V,h6T]
theorem g5T{U:List Bool}{k:Nat}(h:k<U.length):(U.map IV.bool)[k]?=some (.bool U[k]):=by
 rw [h2A,h0U h];rfl
theorem a1L{R:List Iv}{q:Int}{o:Nat}{K:Int->Int->Prop}(h:0<=q/\q< (R.length:Int))(j:o=q.toNat*2)(g:K (gR R q).1 (gR R q).2):aK .i64 (R.flatMap cR) o fun a=>aK .i64 (R.flatMap cR) (o+1) fun b=>K a b:=by
 have i:q.toNat<R.length:=by omega
 have e:gR R q=R[q.toNat]:=cQ i;rw [e]at g;exact ldR i j g
theorem a4F{U:List Bool}{q:Int}{o:Nat}{K:Bool->Prop}(h:0<=q/\q< (U.length:Int))(j:o=q.toNat)(g:K (gU U q)):iS (U.map IV.bool) o K:=by
 have i:q.toNat<U.length:=by omega
 have e:gU U q=U[q.toNat]:=cQ i;rw [e]at g;exact lG (by rw [j];exact g5T i) g
theorem a4G{ks:List Int}{j o:Nat}{K:Int->Prop}(h:j<ks.length)(i:o=j)(g:K (ks.getD j 0)):aK .i64 (ks.map (IV.int .i64)) o K:=by
 rw [cQ h]at g;exact bF (by rw [i,h2A,h0U h];rfl) g
theorem g5U{ks:List Int}(h:ks.length=1)(p:Int->Bool):ks.any p=p (ks.getD 0 0):=by
 match ks,h with
 | [a],_=>simp
theorem g5V{ks:List Int}(h:ks.length=2)(p:Int->Bool):ks.any p=(p (ks.getD 0 0)||p (ks.getD 1 0)):=by
 match ks,h with
 | [a,b],_=>simp
theorem g5W{ks:List Int}(h:ks.length=3)(p:Int->Bool):ks.any p=(p (ks.getD 0 0)|| (p (ks.getD 1 0)||p (ks.getD 2 0))):=by
 match ks,h with
 | [a,b,c],_=>simp
theorem d1Q{U:List Bool}{i:Nat}(h:i<U.length)(e:U.getD i false=false):U.set i false=U:=by
 rw [cQ h]at e;rw [<-e];exact List.set_getElem_self h
def vH(h:Heap)(s w:Nat)(o:Option Iv):Prop:= ∃r:Iv,h.get w= .cells [.int .i64 r.1,.int .i64 r.2]/\h.get s= .cells [.bool o.isSome]/\∀q,o=some q->q=r
structure UpN where
 i5:Nat
 iR:Nat
 iU:Nat
 i9:Nat
 i10:Nat
 i11:Nat
 i12:Nat
def LvS(l:List Nd)(f n d:Int):Prop:=(0<=f/\f<l.length)/\(0<=n/\n<l.length)/\(0<=d/\d<l.length/\(aG l).getD d.toNat 0=1)
structure UpS(l:List Nd)(kn:Int->Option Iv)(un:Int->Bool)(v:Int)(r:Nat)(h g:Heap)(x:UpN)(b:Nat):Prop where
 R:g.get x.iR= .cells ((rG l kn).flatMap cR)
 U:g.get x.iU= .cells ((uG l un).map IV.bool)
 r5:g.get x.i5= .cells [.int .i64 (r:Int)]
 old:vH g x.i10 x.i9 (kn v)
 ge:h.next<=x.iR/\h.next<=x.iU/\h.next<=x.i5/\h.next<=x.i9/\h.next<=x.i10
 lt:x.iR<b/\x.iU<b/\x.i5<b/\x.i9<b/\x.i10<b/\b<=g.next
 fr: ∀j,j<h.next->g.get j=h.get j
structure UpM(g:Heap)(x:UpN)(b:Nat)(o:Option Iv):Prop where
 now:vH g x.i12 x.i11 o
 ge:b<=x.i11/\b<=x.i12/\x.i11<g.next/\x.i12<g.next/\x.i12≠x.i11
theorem vH.mono{h g:Heap}{s w:Nat}{o:Option Iv}(a:vH h s w o)(j:g.get s=h.get s)(p:g.get w=h.get w):vH g s w o:=by
 obtain⟨r,l,m,i⟩:=a;exact⟨r,p.trans l,j.trans m,i⟩
theorem UpS.mono{l:List Nd}{kn:Int->Option Iv}{un:Int->Bool}{v:Int}{r:Nat}{h g g2:Heap}{x:UpN}{b:Nat}(a:UpS l kn un v r h g x b)(e: ∀j,j<b->g2.get j=g.get j)(n:g.next<=g2.next):UpS l kn un v r h g2 x b:=by
 have i:=a.lt;have m:=a.ge;exact⟨(e _ i.1).trans a.R,(e _ i.2.1).trans a.U,(e _ i.2.2.1).trans a.r5,a.old.mono (e _ i.2.2.2.2.1) (e _ i.2.2.2.1),m,⟨i.1,i.2.1,i.2.2.1,i.2.2.2.1,i.2.2.2.2.1,h2F i.2.2.2.2.2 n⟩,fun j p=>(e j (by omega)).trans (a.fr j p)⟩
def j1G(l:List Nd)(kn:Int->Option Iv)(un:Int->Bool)(v f:Int)(r:Nat):Option Iv:=if gU (uG l un) f=true then kn v else joG (kn v) (pO (kn v) r (gR (rG l kn) f))
def p2G(l:List Nd)(kn:Int->Option Iv)(un:Int->Bool)(v f n d:Int)(r:Nat):Iv×Bool:=if r<=12/\gU (uG l un) d=false then mC l ⟨v,f,n,d⟩ (pO (kn v) r (gR (rG l kn) n)) (rG l kn)else(pO (kn v) r (gR (rG l kn) n),true)
theorem d5Q(l:List Nd)(kn:Int->Option Iv)(un:Int->Bool)(v f n d:Int)(r:Nat):sH l kn un ⟨v,f,n,d⟩ r=if gU (uG l un) n=true then j1G l kn un v f r else if(p2G l kn un v f n d r).2=true then joG (j1G l kn un v f r) (p2G l kn un v f n d r).1 else j1G l kn un v f r:=rfl
def xN(g:Heap)(a b:Int)(s:Bool):Heap:=(((((g.push .free).push .free).set g.next (.cells [.int .i64 0,.int .i64 0])).set (g.next+1) (.cells [.bool false])).set g.next (.cells [.int .i64 a,.int .i64 b])).set (g.next+1) (.cells [.bool s])
theorem xO{g:Heap}{a b:Int}{s:Bool}{j:Nat}(h:j<g.next):(xN g a b s).get j=g.get j:=by
 unfold xN
 rw [aE (by omega),aE (by omega),aE (by omega),aE (by omega),aJ (show j< (g.push .free).next from h1T h),aJ h]
theorem f3G{g:Heap}{a b:Int}{s:Bool} :(xN g a b s).get g.next= .cells [.int .i64 a,.int .i64 b]:=by
 unfold xN
 rw [aE (by omega),aH]
theorem f3H{g:Heap}{a b:Int}{s:Bool} :(xN g a b s).get (g.next+1)= .cells [.bool s]:=aH
theorem b5W{g:Heap}{o:Option Iv}{r:Iv}(h: ∀q,o=some q->q=r):vH (xN g r.1 r.2 o.isSome) (g.next+1) g.next o:=⟨r,f3G,f3H,h⟩
theorem f3I{m j:Nat}(h1:1<=m)(g:1<=j/\j<2*m+1/\j≠m+1):(lsL m).getD j 0=1:=by
 obtain⟨h2,h3,h4⟩:=g;unfold lsL
 rw [h1A,show j=(j-1)+1 by omega,h4A];rcases h2D (j-1) m with c|c
 ·rw [h1Z (by rw [h3D];exact c),h7B c];rfl
 ·rw [h1V (by rw [h3D];exact c),h3D,show j-1-m=(j-m-2)+1 by omega,h4A,h7B (by omega)];rfl
theorem LpOk.at{l:List Nd}{i:Nat}(h:LpOk l i){j:Nat}(g:1<=j/\j< (l.getD i default).ks.length/\j≠(l.getD i default).ks.length/2+1):(aG l).getD ((l.getD i default).ks.getD j 0).toNat 0=1:=by
 have m:=h.odd;have e:=congrArg (fun x=>x.getD j 0) h.ss;rw [f3I (by omega) ⟨g.1,by omega,g.2.2⟩]at e;rw [<-e,h1A (l:=List.map _ _),h2A,h0U g.2.1,cQ g.2.1];rfl
theorem d5R{l:List Nd} : ∀{i:Nat}{x:LV},x∈lvP l i-> ∃q j,q<i/\(aG l).getD q 0=3/\snP l q (l.getD q default).im=false/\(1<=j/\j< (l.getD q default).ks.length/2)/\x=bO (l.getD q default) j
 |0,x,h=>by cases h
 |i+1,x,h=>by
  rw [lvP]at h;rcases h2S.1 h with h|h
  ·obtain⟨q,j,a,b⟩:=d5R h;exact⟨q,j,by omega,b⟩
  ·split at h
   ·rename_i c;unfold c6T at h;obtain⟨j,g,rfl⟩:=h4O.1 h;rw [h6H]at g;exact⟨i,j+1,by omega,c.1,c.2,⟨by omega,by omega⟩,rfl⟩
   ·cases h
theorem b1G{l:List Nd}{x:LV}(h:x∈aO l):LvS l x.f x.n x.d:=by
 obtain⟨q,j,h1,h2,_,⟨h3,h4⟩,rfl⟩:=d5R h;have g:=sG h2;obtain⟨a,b,c⟩:=b5S g h4;have i:=g.odd;refine⟨⟨a.1,by omega⟩,⟨b.1,by omega⟩,⟨c.1,by omega,?_⟩⟩;have e:((l.getD q default).ks.length-1)/2=(l.getD q default).ks.length/2:=by omega
 have:=g.at (j:=(l.getD q default).ks.length/2) ⟨by omega,by omega,by omega⟩;rw [<-e]at this;exact this
def okI(r:Iv):Prop:=r.1<=r.2/\dB r
theorem e9C{o:Option Iv}{r:Nat}{y:Iv}(h: ∀q,o=some q->okI q)(g:okI y):okI (pO o r y):=by
 unfold pO
 cases o with
 |none=>exact g
 |some q=>
  have:=h q rfl;dsimp only;split
  ·unfold okI dB bJ wlo whi at*
   dsimp only;split<;>split<;>omega
  ·exact g
theorem e9D{o:Option Iv}{y:Iv}(h: ∀q,o=some q->okI q)(i:okI y): ∀q,joG o y=some q->okI q:=by
 intro q g;unfold joG at g
 cases o with
 |none=>rw [<-Option.some.inj g];exact i
 |some z=>rw [<-Option.some.inj g];exact d5P (h z rfl) i
theorem c1L{q w:Iv}(g:dB q)(i:dB w)(h:(d1M q w).2=true):okI (d1M q w).1:=by
 unfold d1M at*
 dsimp only at*
 unfold cP
 rw [if_pos h];unfold dU at h;rw [decide_eq_true_eq]at h;unfold okI dB bJ at*
 dsimp only at*
 omega
theorem e6G{n:Int}{s:Bool}(h:bJ n):dB (upB n s).1:=by
 unfold upB
 split
 ·unfold dB bJ;dsimp only;omega
 ·rename_i c;have m:fK= -9223372036854775808:=rfl;unfold dB bJ at*
  dsimp only
  cases s
  ·simp only [h1X,if_false];omega
  ·simp only [if_true,true_and]at c⊢;omega
theorem e6H{n:Int}{s:Bool}(h:bJ n):dB (frB n s).1:=by
 unfold frB
 split
 ·unfold dB bJ;dsimp only;omega
 ·rename_i c;have m:fW=9223372036854775807:=rfl;unfold dB bJ at*
  dsimp only
  cases s
  ·simp only [h1X,if_false];omega
  ·simp only [if_true,true_and]at c⊢;omega
theorem f3J{l:List Nd}{x:LV}{q:Iv}{R:List Iv}(p:R.length=l.length)(m: ∀i,i<l.length->okI (R.getD i (0,0)))(j:okI q)(h:(mC l x q R).2=true):okI (mC l x q R).1:=by
 have g: ∀k,dB (gR R k):=fun k=>by
  unfold gR
  rcases h2D k.toNat l.length with c|c
  ·exact(m _ c).2
  ·rw [h1A,h2E (by omega)];unfold dB bJ
   decide
 unfold mC at h⊢;split at h
 ·rename_i c;rw [if_pos c];exact j
 rename_i c;rw [if_neg c];split at h
 ·rename_i c;rw [if_pos c];split at h
  ·rename_i c;rw [if_pos c];exact j
  ·rename_i c;rw [if_neg c];exact c1L j.2 ⟨by unfold bJ;omega,bX _⟩ h
 rename_i c;rw [if_neg c];split at h
 ·rename_i c;rw [if_pos c];split at h
  ·rename_i c;rw [if_pos c];exact c1L j.2 (e6G (g _).2) h
  ·cases h
 rename_i c;rw [if_neg c];split at h
 ·rename_i c;rw [if_pos c];split at h
  ·rename_i c;rw [if_pos c];exact c1L j.2 (e6H (g _).1) h
  ·cases h
 ·rename_i c;rw [if_neg c];exact j
theorem b0H{l:List Nd}(m: ∀n∈l,bJ n.im){kn:Int->Option Iv}{un:Int->Bool}(j:KOk kn){x:LV}(p:LvS l x.f x.n x.d){r:Nat} : ∀y,sH l kn un x r=some y->okI y:=by
 have g: ∀k:Int,0<=k/\k<l.length->okI (gR (rG l kn) k):=fun k h=>a4E m j k.toNat (by omega)
 have h1: ∀y,j1G l kn un x.v x.f r=some y->okI y:=by
  unfold j1G
  split
  ·exact fun y=>j x.v y
  ·exact e9D (fun q=>j x.v q) (e9C (fun q=>j x.v q) (g _ p.1))
 have h2:(p2G l kn un x.v x.f x.n x.d r).2=true->okI (p2G l kn un x.v x.f x.n x.d r).1:=by
  have w:okI (pO (kn x.v) r (gR (rG l kn) x.n)):=e9C (fun q=>j x.v q) (g _ p.2.1);unfold p2G
  split
  ·intro h;exact f3J (lH l kn) (fun i u=>a4E m j i u) w h
  ·exact fun _=>w
 intro y z;have e:=d5Q l kn un x.v x.f x.n x.d r;rw [show sH l kn un ⟨x.v,x.f,x.n,x.d⟩ r=some y from z]at e;split at e
 ·exact h1 y e.symm
 split at e
 ·rename_i c;exact e9D h1 (h2 c) y e.symm
 ·exact h1 y e.symm
theorem KOk.set{kn:Int->Option Iv}(h:KOk kn){v:Int}{y:Iv}(g:okI y):KOk (zN kn v y):=by
 intro w r e;unfold zN at e;split at e
 ·rw [<-Option.some.inj e];exact g
 ·exact h w r e
theorem a4H{l:List Nd}{vs:List LV}{r:Nat}{a:(Int->Option Iv) ×Bool}{x:LV}(h:tV l a.1 (unG vs a.1) x r=none):xM l vs r a x=a:=by
 unfold tV at h;unfold xM
 cases e:sH l a.1 (unG vs a.1) x r with
 |none=>rfl
 |some y=>
  rw [e]at h;dsimp only at h⊢;split at h
  ·rename_i c;rw [if_pos c]
  ·cases h
theorem a4I{l:List Nd}{vs:List LV}{r:Nat}{a:(Int->Option Iv) ×Bool}{x:LV}{y:Iv}(h:tV l a.1 (unG vs a.1) x r=some y):xM l vs r a x=(zN a.1 x.v y,true)/\sH l a.1 (unG vs a.1) x r=some y/\a.1 x.v≠some y:=by
 unfold tV at h;unfold xM
 cases e:sH l a.1 (unG vs a.1) x r with
 |none=>rw [e]at h;cases h
 |some z=>
  rw [e]at h;dsimp only at h⊢;split at h
  ·cases h
  ·rename_i c;obtain rfl:=h1M h;rw [if_neg c];exact⟨rfl,rfl,c⟩
theorem f3K{l:List Nd}(j: ∀n∈l,bJ n.im){vs:List LV}{r:Nat}{a:(Int->Option Iv) ×Bool}{x:LV}(m:LvS l x.f x.n x.d)(h:KOk a.1):KOk (xM l vs r a x).1:=by
 cases e:tV l a.1 (unG vs a.1) x r with
 |none=>rw [a4H e];exact h
 |some y=>
  obtain⟨i,g,_⟩:=a4I e;rw [i];exact h.set (b0H j h m y g)
theorem b1H{l:List Nd}(g: ∀n∈l,bJ n.im){vs:List LV}{r:Nat} : ∀(L:List LV)(a:(Int->Option Iv) ×Bool),(∀x∈L,LvS l x.f x.n x.d)->KOk a.1->KOk (L.foldl (xM l vs r) a).1
 | [],a,_,h=>h
 |x::L,a,hx,h=>b1H g L _ (fun y i=>hx y (h2N _ i)) (f3K g (hx x h2C) h)
theorem d5S:KOk (fun _=>none):=fun v r h=>by cases h
theorem b1I{l:List Nd}(g: ∀n∈l,bJ n.im): ∀n,KOk (fM l (aO l) n).1
 |0=>d5S
 |n+1=>b1H g _ _ (fun x i=>b1G i) (b1I g n)
def ptI(o:Option Iv):Nat:=match o with
 |none=>3
 |some r=>(if r.1=fK then 0 else 1)+(if r.2=fW then 0 else 1)
def pot(vs:List LV)(kn:Int->Option Iv):Nat:=(vs.map fun x=>ptI (kn x.v)).sum
theorem f3L(o:Option Iv):ptI o<=3:=by
 unfold ptI
 split
 ·exact h1D _
 ·split<;>split<;>omega
theorem d5T: ∀(vs:List LV)(kn:Int->Option Iv),pot vs kn<=3*vs.length
 | [],kn=>h1D _
 |x::r,kn=>by
  have:=d5T r kn;have:=f3L (kn x.v);unfold pot at*
  rw [h2H,h8U,h1O];omega
theorem c6U{kn:Int->Option Iv}{v:Int}{y:Iv}(h:ptI (some y)<ptI (kn v)): ∀vs:List LV,pot vs (zN kn v y)<=pot vs kn/\((∃x∈vs,x.v=v)->pot vs (zN kn v y)<pot vs kn)
 | []=>⟨h1D _,fun⟨x,j,_⟩=>by cases j⟩
 |x::r=>by
  obtain⟨h1,h2⟩:=c6U h r;unfold pot at*
  rw [h2H,h2H,h8U,h8U];have e:ptI (zN kn v y x.v)<=ptI (kn x.v)/\(x.v=v->ptI (zN kn v y x.v)<ptI (kn x.v)):=by
   unfold zN
   split
   ·rename_i c;rw [c];exact⟨Nat.le_of_lt h,fun _=>h⟩
   ·rename_i c;exact⟨h1D _,fun q=>absurd q c⟩
  refine⟨by omega,fun⟨z,g,i⟩=>?_⟩;rcases h2O.1 g with rfl|g
  ·have:=e.2 i;omega
  ·have:=h2 ⟨z,g,i⟩;omega
theorem d5U{l:List Nd}{kn:Int->Option Iv}{un:Int->Bool}{x:LV}{r:Nat}(A:12<r){o y:Iv}(i:kn x.v=some o)(h:sH l kn un x r=some y):(y.1=o.1\/y.1=fK)/\(y.2=o.2\/y.2=fW):=by
 have W: ∀z:Iv,(((pO (some o) r z).1=o.1\/ (pO (some o) r z).1=fK))/\((pO (some o) r z).2=o.2\/ (pO (some o) r z).2=fW)/\True:=fun z=>by
  unfold pO
  dsimp only;rw [if_pos (by omega)];dsimp only;unfold wlo whi fK fW
  refine⟨?_,?_,trivial⟩
  ·split
   ·exact .inr rfl
   ·exact .inl rfl
  ·split
   ·exact .inr rfl
   ·exact .inl rfl
 have J: ∀(a z:Iv),((a.1=o.1\/a.1=fK)/\(a.2=o.2\/a.2=fW))->((z.1=o.1\/z.1=fK)/\(z.2=o.2\/z.2=fW))->(((ijn a z).1=o.1\/ (ijn a z).1=fK)/\((ijn a z).2=o.2\/ (ijn a z).2=fW)):=fun a z u D=>by
  unfold ijn
  dsimp only;omega
 have g:(o.1=o.1\/o.1=fK)/\(o.2=o.2\/o.2=fW):=⟨.inl rfl,.inl rfl⟩;have m: ∀z,∀y,joG (some o) (pO (some o) r z)=some y->(y.1=o.1\/y.1=fK)/\(y.2=o.2\/y.2=fW):=fun z y e=>by
  rw [<-Option.some.inj (show some (ijn o (pO (some o) r z))=some y from e)];exact J _ _ g ⟨(W z).1,(W z).2.1⟩
 have j: ∀y,j1G l kn un x.v x.f r=some y->(y.1=o.1\/y.1=fK)/\(y.2=o.2\/y.2=fW):=fun y e=>by
  unfold j1G at e;rw [i]at e;split at e
  ·rw [<-Option.some.inj e];exact g
  ·exact m _ y e
 have e:=d5Q l kn un x.v x.f x.n x.d r;rw [show sH l kn un ⟨x.v,x.f,x.n,x.d⟩ r=some y from h]at e;have p:p2G l kn un x.v x.f x.n x.d r=(pO (some o) r (gR (rG l kn) x.n),true):=by
  unfold p2G
  rw [if_neg (fun q=>by have:=q.1;omega),i]
 rw [p]at e;split at e
 ·exact j y e.symm
 ·rw [if_pos rfl]at e
  cases e2:j1G l kn un x.v x.f r with
  |none=>
   rw [e2]at e;obtain rfl:y=pO (some o) r (gR (rG l kn) x.n):=Option.some.inj e;exact⟨(W _).1,(W _).2.1⟩
  |some z=>
   rw [e2]at e;obtain rfl:y=ijn z (pO (some o) r (gR (rG l kn) x.n)):=Option.some.inj e;exact J _ _ (j z e2) ⟨(W _).1,(W _).2.1⟩
theorem e6I{l:List Nd}{vs:List LV}{r:Nat}(j:12<r){a:(Int->Option Iv) ×Bool}{x:LV}(z:x∈vs):pot vs (xM l vs r a x).1<=pot vs a.1/\((xM l vs r a x).2=true->a.2=true\/pot vs (xM l vs r a x).1<pot vs a.1):=by
 cases e:tV l a.1 (unG vs a.1) x r with
 |none=>rw [a4H e];exact⟨h1D _,fun h=> .inl h⟩
 |some y=>
  obtain⟨p,A,i⟩:=a4I e;rw [p];have u:ptI (some y)<ptI (a.1 x.v):=by
   cases ho:a.1 x.v with
   |none=>
    unfold ptI
    dsimp only;split<;>split<;>omega
   |some o=>
    obtain⟨h1,h2⟩:=d5U j ho A;have m: ¬ (y.1=o.1/\y.2=o.2):=fun q=>i (by rw [ho];exact congrArg some (Prod.ext q.1.symm q.2.symm))
    unfold ptI
    dsimp only;split<;>split<;>split<;>split<;>omega
  obtain⟨D,g⟩:=c6U u vs;exact⟨D,fun _=> .inr (g ⟨x,z,rfl⟩)⟩
theorem b5X{l:List Nd}{vs:List LV}{r:Nat}(g:12<r): ∀(L:List LV)(a:(Int->Option Iv) ×Bool),(∀x∈L,x∈vs)->pot vs (L.foldl (xM l vs r) a).1<=pot vs a.1/\((L.foldl (xM l vs r) a).2=true->a.2=true\/pot vs (L.foldl (xM l vs r) a).1<pot vs a.1)
 | [],a,_=>⟨h1D _,fun h=> .inl h⟩
 |x::L,a,hx=>by
  obtain⟨h1,h2⟩:=e6I (l:=l) g (a:=a) (hx x h2C);obtain⟨h3,h4⟩:=b5X (l:=l) g L (xM l vs r a x) (fun y i=>hx y (h2N _ i));rw [h8D];refine⟨h2F h3 h1,fun h=>?_⟩;rcases h4 h with q|q
  ·rcases h2 q with z|z
   ·exact .inl z
   ·exact .inr (by omega)
  ·exact .inr (by omega)
theorem c6V(l:List Nd)(vs:List LV): ∀k,(∀m,m<=12+k->(fM l vs m).2=true)->pot vs (fM l vs (12+k)).1+k<=3*vs.length
 |0,_=>d5T _ _
 |k+1,h=>by
  have i:=c6V l vs k fun m j=>h m (by omega)
  have h2:=h (12+(k+1)) (h1D _);have h3:=b5X (l:=l) (vs:=vs) (r:=12+k+1) (by omega) vs ((fM l vs (12+k)).1,false) (fun x g=>g);have e:fM l vs (12+(k+1))=vs.foldl (xM l vs (12+k+1)) ((fM l vs (12+k)).1,false):=rfl;rw [e]at h2⊢;rcases h3.2 h2 with q|q
  ·cases q
  ·dsimp only at q;omega
theorem a8X{l:List Nd}{vs:List LV}{n:Nat}(h: ∀m,m<=n->(fM l vs m).2=true):n<=12+3*vs.length:=by
 rcases h2D n 12 with c|c
 ·omega
 ·have:=c6V l vs (n-12) fun m g=>h m (by omega)
  omega
theorem e6J{vs:List LV}{kn:Int->Option Iv}{v:Int}{y:Iv} :unG vs (zN kn v y)=fun w=>if w=v then false else unG vs kn w:=by
 funext w;unfold unG zN
 by_cases e:w=v
 ·rw [if_pos e,if_pos e];simp
 ·rw [if_neg e,if_neg e]
theorem d5V{vs:List LV}{kn:Int->Option Iv}{v:Int}(h:unG vs kn v=true):kn v=none:=by
 unfold unG at h;rw [h0Y,i1X]at h;exact h.2
def OvC{α:Type}(c:α->List IV)(z b:Nat)(g:Heap)(ov:IV)(L:List α):Prop:=(ov= .nilslice/\L=[]) \/ ∃io,ov= .vslice (some io) (L.length*z) L.length z (L.flatMap c)/\g.get io= .tip (L.length*z)/\b<=io/\io<g.next
theorem OvC.app{α:Type}{c:α->List IV}{z b:Nat}{g:Heap}{ov:IV}{L:List α}{x:α}{cs:List IV}{bytes:Nat}{K:Nat->Nat->Nat->List IV->Heap->Prop}(h:OvC c z b g ov L)(hcs:cs=c x)(hL:(L.length+1)*bytes<=140737488355328)(hb:b<=g.next)
  (hk: ∀id e n c' g2,OvC c z b g2 (.vslice (some id) e n z c') (L++ [x])->(∀j,j<b->g2.get j=g.get j)->g.next<=g2.next->K id e n c' g2):qT g z bytes ov 1 cs K:=by
 rcases h with⟨rfl,rfl⟩| ⟨i,rfl,l,h1,h2⟩
 ·refine⟨by simpa using hL,hk _ _ _ _ _ (.inr ⟨g.next,?_,?_,hb,h1G _⟩) (fun j m=>aJ (by omega)) (h4E _)⟩
  ·rw [hcs,h3U,h2P,h7Z,h3V];rfl
  ·exact aR
 ·refine⟨⟨rfl,hL,l⟩,hk _ _ _ _ _ (.inr ⟨i,?_,?_,h1,h2⟩) (fun j m=>aE (by omega)) (h1D _)⟩
  ·rw [hcs,h1E,h3M];simp only [h1O,h1U,h2P,h7Z,h3V];rw [show(L.length+(0+1))*z=L.length*z+1*z by rw [h3B]]
  ·rw [aH,h1E];simp only [h1O,h1U];rw [h3B]
theorem d1T(vs:List LV)(kn:Int->Option Iv)(x:LV):qJ (vs++ [x]) kn=qJ vs kn++(match kn x.v with|some r=>[(x.v,r)]|none=>[]):=by
 unfold qJ
 rw [List.filterMap_append]
 congr 1
 cases h:kn x.v with
 |none=>simp [h]
 |some r=>simp [h]
theorem c6W(vs:List LV)(kn:Int->Option Iv):(qJ vs kn).length<=vs.length:=h7W _ _
theorem b1J(l:List Nd):(aO l).length<=16*l.length:=d5N l _
theorem a4J{C:List (Int×Iv)}(h: ∀p∈C,dB p.2):KOk (lP C):=by
 intro v r e;unfold lP at e
 cases z:C.find? (fun p=>decide (p.1=v))with
 |none=>rw [z]at e;cases e
 |some p=>
  rw [z]at e;dsimp only at e;split at e
  ·rename_i c;rw [<-Option.some.inj e];exact⟨c,h p (i1Z z)⟩
  ·cases e
def ctd(a b:Iv):Bool:=decide (b.1<=a.1) &&decide (a.2<=b.2)
def vrG(L:List LV):Int->Option LV:=L.foldl (fun f x=>fun v=>if v=x.v then some x else f v) (fun _=>none)
theorem b5Y(L:List LV)(x:LV)(v:Int):vrG (L++ [x]) v=if v=x.v then some x else vrG L v:=by
 unfold vrG
 rw [h7M];rfl
theorem e6K{v:Int}{x:LV}{L:List LV}(h:vrG L v=some x):x∈L/\x.v=v:=by
 have j: ∀n,∀L:List LV,L.length=n->vrG L v=some x->x∈L/\x.v=v:=by
  intro n
  induction n with
  |zero=>
   intro L g h;rw [i2A.1 g]at h
   cases h
  |succ n ih=>
   intro L g h;obtain⟨y,M,e⟩: ∃y M,L=M++ [y]:=by
    have i:L≠[]:=fun e=>by rw [e]at g;cases g
    exact⟨L.getLast i,L.dropLast,(i1Y i).symm⟩
   rw [e,b5Y]at h;rw [e];split at h
   ·rename_i c;obtain rfl:=h1M h;exact⟨List.mem_append_right _ h2C,c.symm⟩
   ·have l:M.length=n:=by rw [e,h1E]at g;simpa using g
    obtain⟨a,b⟩:=ih M l h;exact⟨List.mem_append_left _ a,b⟩
 exact j _ L rfl h
def okC(l:List Nd)(C:List (Int×Iv))(i:Nat):Bool:=match vrG (aO l) (C.getD i (0,(0,0))).1 with
 |none=>false
 |some x=>!(lI (C.take i) (C.getD i (0,(0,0))).1) && (decide ((C.getD i (0,(0,0))).2.1<=(C.getD i (0,(0,0))).2.2) && (ctd (gR (rG l (lP C)) x.f) (C.getD i (0,(0,0))).2&& (!(mC l x (gR (rG l (lP C)) x.n) (rG l (lP C))).2||ctd (mC l x (gR (rG l (lP C)) x.n) (rG l (lP C))).1 (C.getD i (0,(0,0))).2)))
def a7B(l:List Nd)(C:List (Int×Iv)):Nat->Bool
 |0=>true
 |i+1=>a7B l C i&&okC l C i
def e6L(l:List Nd)(C:List (Int×Iv)):Bool:=a7B l C C.length
theorem c6X{l:List Nd}{C:List (Int×Iv)}{i:Nat}(h:okC l C i=false): ∀n,i<n->a7B l C n=false
 |0,q=>absurd q (h4Q _)
 |n+1,q=>by
  rw [a7B];rcases h2D i n with c|c
  ·rw [c6X h n c,h3Z]
  ·obtain rfl:i=n:=by omega
   rw [h,h5M]
theorem g9N{l:List Nd}{C:List (Int×Iv)} :e6L l C=true ↔ ∀i,i<C.length->okC l C i=true:=by
 have j: ∀n,a7B l C n=true ↔ ∀i,i<n->okC l C i=true:=by
  intro n
  induction n with
  |zero=>exact⟨fun _ i g=>absurd g (h4Q _),fun _=>rfl⟩
  |succ n ih=>
   rw [a7B,h0Y,ih];refine⟨fun h i g=>?_,fun h=>⟨fun i g=>h i (by omega),h n (by omega)⟩⟩;rcases h2D i n with c|c
   ·exact h.1 i c
   ·obtain rfl:i=n:=by omega
    exact h.2
 exact j _
theorem e6M{c:List IV}(h:c1C c){q:Nat}(l:q<2): ∃(nm:List UInt8)(i:Int)(g:Gr),GrOk g/\∀j,j<5->c[q*5+j]?=(gC nm i g)[j]?:=by
 obtain⟨u,m,r,h1,rfl⟩:=h;have e: ∀nm i g,(gC nm i g).length=5:=fun _ _ _=>rfl
 match q,l with
 |0,_=>exact⟨_,_,u,r,fun j p=>by rw [h1Z (by rw [e];omega),h5K,h1Q]⟩
 |1,_=>exact⟨_,_,m,h1,fun j p=>by rw [h1V (by rw [e];omega),e,Nat.one_mul,h5C]⟩
theorem g9V{l:List Nd}{q:Nat}(h:(aG l).getD q 0=3): ∀{i:Nat},q<i->snP l i (l.getD q default).im=true
 |0,hq=>absurd hq (h4Q _)
 |i+1,hq=>by
  rw [snP,h2Z];rcases h2D q i with c|c
  ·exact .inl (g9V h c)
  ·obtain rfl:q=i:=by omega
   exact .inr (by rw [decide_eq_true h,decide_eq_true rfl];rfl)
theorem h9L{l:List Nd}{i:Nat}{x:LV}(h:x∈lvP l i): ∃im j:Int,x.v=16*im+j/\(1<=j/\j<=15)/\(0<=im/\im<=15)/\snP l i im=true:=by
 obtain⟨q,j,h1,h2,_,⟨h3,h4⟩,rfl⟩:=d5R h;have g:=sG h2;have m:=g.odd;exact⟨(l.getD q default).im,(j:Int),rfl,⟨by omega,by omega⟩,g.im,g9V h2 h1⟩
theorem a6U(l:List Nd): ∀i,((lvP l i).map (fun x=>x.v)).Nodup
 |0=>List.nodup_nil
 |i+1=>by
  rw [lvP,h3O,List.nodup_append];refine⟨a6U l i,?_,fun a p b g=>?_⟩
  ·split
   ·unfold c6T
    rw [i3I];refine List.Pairwise.map _ (fun a b (hab:a≠b)=>?_) List.nodup_range;show(16*(l.getD i default).im+((a+1:Nat):Int))≠(16*(l.getD i default).im+((b+1:Nat):Int));omega
   ·exact List.nodup_nil
  ·split at g
   ·rename_i c;obtain⟨x,u,rfl⟩:=h4O.1 p;obtain⟨y,m,rfl⟩:=h4O.1 g;obtain⟨im,j,e,h1,h2,h3⟩:=h9L u;unfold c6T at m;obtain⟨k,r,rfl⟩:=h4O.1 m;rw [h6H]at r;have z:=(sG c.1).odd;intro q;have A:16*im+j=16*(l.getD i default).im+((k+1:Nat):Int):=by rw [<-e];exact q
    have:im=(l.getD i default).im:=by omega
    rw [this,c.2]at h3
    cases h3
   ·cases g
theorem g0U{α:Type}{f:α->Int}{L:List α}(h:(L.map f).Nodup){x y:α}(hx:x∈L)(hy:y∈L)(e:f x=f y):x=y:=by
 obtain⟨i,g,rfl⟩:=h4L.1 hx;obtain⟨j,m,rfl⟩:=h4L.1 hy;have l:=i1V.1 h;rcases Nat.lt_trichotomy i j with c|c|c
 ·have:=l i j (by rw [h1P];exact g) (by rw [h1P];exact m) c;rw [List.getElem_map,List.getElem_map]at this;exact absurd e this
 ·subst c;rfl
 ·have:=l j i (by rw [h1P];exact m) (by rw [h1P];exact g) c;rw [List.getElem_map,List.getElem_map]at this;exact absurd e.symm this
theorem f9Z{v:Int} : ∀{n:Nat}{L:List LV},L.length=n->(∃x∈L,x.v=v)-> ∃y,vrG L v=some y
 |0,L,hL,⟨x,g,_⟩=>by rw [i2A.1 hL]at g;cases g
 |n+1,L,hL,⟨x,g,hv⟩=>by
  have i:L≠[]:=fun e=>by rw [e]at hL;cases hL
  have e:=i1Y i;rw [<-e,b5Y]
  by_cases c:v=(L.getLast i).v
  ·exact⟨_,if_pos c⟩
  ·rw [if_neg c];rw [<-e]at g;rcases h2S.1 g with g|g
   ·exact f9Z (n:=n) (by rw [List.length_dropLast];omega) ⟨x,g,hv⟩
   ·rw [h2J.1 g]at hv;exact absurd hv.symm c
theorem h9M{l:List Nd}{x:LV}(h:x∈aO l):vrG (aO l) x.v=some x:=by
 obtain⟨y,g⟩:=f9Z rfl ⟨x,h,rfl⟩;obtain⟨a,b⟩:=e6K g;rw [g,g0U (a6U l _) a h b]
theorem b5Z{vs:List LV}{kn:Int->Option Iv}{p:Int×Iv} :p∈qJ vs kn ↔ (∃x∈vs,x.v=p.1)/\kn p.1=some p.2:=by
 unfold qJ
 rw [h6A];refine⟨fun⟨x,g,e⟩=>?_,fun⟨⟨x,g,i⟩,e⟩=>⟨x,g,?_⟩⟩
 ·cases z:kn x.v with
  |none=>rw [z]at e;cases e
  |some r=>
   rw [z]at e;obtain rfl:=h1M e;exact⟨⟨x,g,rfl⟩,z⟩
 ·rw [i,e];rfl
theorem d4W(kn:Int->Option Iv): ∀vs:List LV,((qJ vs kn).map Prod.fst).Sublist (vs.map fun x=>x.v)
 | []=>List.Sublist.refl _
 |x::r=>by
  have g:=d4W kn r;unfold qJ at g⊢;rw [List.filterMap_cons,h2H]
  cases kn x.v with
  |none=>exact g.cons _
  |some z=>exact g.cons_cons _
theorem a6Z(l:List Nd)(kn:Int->Option Iv):((qJ (aO l) kn).map Prod.fst).Nodup:=(d4W kn (aO l)).nodup (a6U l _)
theorem g4V{C:List (Int×Iv)}(h:(C.map Prod.fst).Nodup){i:Nat}(r:i<C.length):lI (C.take i) C[i].1=false:=by
 cases e:lI (C.take i) C[i].1 with
 |false=>rfl
 |true=>
  unfold lI at e;obtain⟨p,l,g⟩:=i1W.1 e;rw [decide_eq_true_eq]at g;obtain⟨j,m,rfl⟩:=h4L.1 l;rw [h1Y]at m;rw [h6J]at g;have:=i1V.1 h j i (by rw [h1P];omega) (by rw [h1P];omega) (by omega);rw [List.getElem_map,List.getElem_map]at this;exact absurd g this
def f3F(vs:List LV)(kn:Int->Option Iv):Prop:= ∀v r,kn v=some r-> ∃x∈vs,x.v=v
theorem h0L{l:List Nd}{vs:List LV}{r:Nat}{a:(Int->Option Iv) ×Bool}{x:LV}(j:x∈vs)(h:f3F vs a.1):f3F vs (xM l vs r a x).1:=by
 cases e:tV l a.1 (unG vs a.1) x r with
 |none=>rw [a4H e];exact h
 |some y=>
  rw [(a4I e).1];intro v i g;unfold zN at g;dsimp only at g;split at g
  ·rename_i c;exact⟨x,j,c.symm⟩
  ·exact h v i g
theorem e3G{l:List Nd}{vs:List LV}{r:Nat} : ∀(L:List LV)(a:(Int->Option Iv) ×Bool),(∀x∈L,x∈vs)->f3F vs a.1->f3F vs (L.foldl (xM l vs r) a).1
 | [],a,_,h=>h
 |x::L,a,hx,h=>e3G L _ (fun y g=>hx y (h2N _ g)) (h0L (hx x h2C) h)
theorem g0A(l:List Nd)(vs:List LV): ∀n,f3F vs (fM l vs n).1
 |0=>fun v r h=>by cases h
 |n+1=>e3G _ _ (fun x g=>g) (g0A l vs n)
theorem h0M{vs:List LV}{kn:Int->Option Iv}(j:f3F vs kn)(g:KOk kn):lP (qJ vs kn)=kn:=by
 funext v;unfold lP
 cases e:(qJ vs kn).find? (fun p=>decide (p.1=v))with
 |none=>
  cases z:kn v with
  |none=>rfl
  |some r=>
   have i:(v,r) ∈qJ vs kn:=b5Z.2 ⟨j v r z,z⟩;have:=List.find?_eq_none.1 e _ i;simp at this
 |some p=>
  have h1:=i1Z e;have h2:=List.find?_some e;rw [decide_eq_true_eq]at h2;have h3:=(b5Z.1 h1).2;rw [h2]at h3;dsimp only;rw [if_pos (g v p.2 h3).1,h3]
theorem h9N{l:List Nd}{vs:List LV}{r:Nat}{a:(Int->Option Iv) ×Bool}{x:LV}(h:(xM l vs r a x).2=false):a.2=false/\tV l a.1 (unG vs a.1) x r=none/\xM l vs r a x=a:=by
 cases e:tV l a.1 (unG vs a.1) x r with
 |none=>
  have g:=a4H (vs:=vs) e;rw [g]at h;exact⟨h,rfl,g⟩
 |some y=>rw [(a4I e).1]at h;cases h
theorem e3Y{l:List Nd}{vs:List LV}{r:Nat} : ∀(L:List LV)(a:(Int->Option Iv) ×Bool),(L.foldl (xM l vs r) a).2=false->a.2=false/\L.foldl (xM l vs r) a=a/\∀x∈L,tV l a.1 (unG vs a.1) x r=none
 | [],a,h=>⟨h,rfl,fun x j=>by cases j⟩
 |x::L,a,h=>by
  obtain⟨h1,h2,h3⟩:=e3Y L (xM l vs r a x) h;obtain⟨h4,m,i⟩:=h9N h1;rw [i]at h2 h3;refine⟨h4,by rw [h8D,i];exact h2,fun y g=>?_⟩;rcases h2O.1 g with rfl|g
  ·exact m
  ·exact h3 y g
structure FixK(l:List Nd)(kn:Int->Option Iv)(r:Nat):Prop where
 ok:KOk kn
 sup:f3F (aO l) kn
 fx: ∀x∈aO l,tV l kn (unG (aO l) kn) x r=none
theorem h0N{l:List Nd}(g: ∀n∈l,bJ n.im){N:Nat}(h:(fM l (aO l) N).2=false):FixK l (fM l (aO l) N).1 N:=by
 cases N with
 |zero=>cases h
 |succ n=>
  obtain⟨_,h2,h3⟩:=e3Y (aO l) ((fM l (aO l) n).1,false) h;have e:(fM l (aO l) (n+1)).1=(fM l (aO l) n).1:=by
   show((aO l).foldl (xM l (aO l) (n+1)) ((fM l (aO l) n).1,false)).1=_;rw [h2]
  rw [e];exact⟨b1I g n,g0A l _ n,h3⟩
theorem g9W{l:List Nd}{un:Int->Bool} : ∀i,i<l.length->(uG l un).getD i false=true-> ∃g,g<=i/\(l.getD g default).op=3/\g<l.length/\un (l.getD g default).im=true:=by
 intro i
 induction i using Nat.strongRecOn with
 |ind i ih=>
  intro m h;rw [i0A m]at h;unfold ust at h
  by_cases hs:(aG l).getD i 0=1
  case neg=>rw [if_pos hs]at h;cases h
  rw [if_neg (show¬ ((aG l).getD i 0≠1)from fun c=>c hs)]at h;obtain⟨h1,h2⟩:=zJ m hs;have r: ∀k:Int,0<=k/\k<i->gU (uG l un) k=true-> ∃g,g<=i/\(l.getD g default).op=3/\g<l.length/\un (l.getD g default).im=true:=fun k p y=>by
   obtain⟨g,a,b⟩:=ih k.toNat (by omega) (by omega) y;exact⟨g,by omega,b⟩
  split at h
  ·rename_i A;exact⟨i,h1D _,by rw [cQ m];exact A,m,by rw [cQ m];exact h⟩
  split at h
  ·rename_i z;rcases h2 with⟨_,q,e,D,h3,K,g,L⟩| ⟨u,_⟩
   ·have p:tU l l[i]=l.getD q.toNat default:=by unfold tU;rw [e];rfl
    have G:=(sG h3).odd;obtain⟨a,b,_⟩:=b5S (j:=l[i].im.toNat) (sG h3) (by omega);rw [p,h2Z]at h;rcases h with h|h
    ·exact r _ ⟨a.1,by omega⟩ h
    ·exact r _ ⟨b.1,by omega⟩ h
   ·exact absurd z u
  ·rw [h0Y]at h;obtain⟨k,p,y⟩:=i1W.1 h.2;have:=h1 k p;exact r k ⟨this.1,this.2.1⟩ y
theorem e4A{l:List Nd}{kn:Int->Option Iv}{un:Int->Bool}{x:LV}{r:Nat}(h:gU (uG l un) x.f=false\/kn x.v≠none): ∃y,sH l kn un x r=some y:=by
 have j: ∃y,j1G l kn un x.v x.f r=some y:=by
  unfold j1G
  split
  ·rename_i c;rcases h with h|h
   ·rw [h]at c;cases c
   ·cases e:kn x.v with
    |none=>exact absurd e h
    |some o=>exact⟨o,rfl⟩
  ·unfold joG
   split
   ·exact⟨_,rfl⟩
   ·exact⟨_,rfl⟩
 obtain⟨y,g⟩:=j;have e:=d5Q l kn un x.v x.f x.n x.d r;rw [g]at e;show∃y,sH l kn un ⟨x.v,x.f,x.n,x.d⟩ r=some y
 rw [e];split
 ·exact⟨_,rfl⟩
 split
 ·exact⟨_,rfl⟩
 ·exact⟨_,rfl⟩
theorem d1N{l:List Nd}{kn:Int->Option Iv}{un:Int->Bool}{x:LV}{r:Nat}{y:Iv}(h:tV l kn un x r=none)(e:sH l kn un x r=some y):kn x.v=some y:=by
 unfold tV at h;rw [e]at h;dsimp only at h;split at h
 ·assumption
 ·cases h
theorem g4W{l:List Nd}{lo:Int}(hg:GL l lo){kn:Int->Option Iv}{r:Nat}(Z:FixK l kn r): ∀n,∀x∈aO l,x.f.toNat=n->kn x.v≠none:=by
 intro n
 induction n using Nat.strongRecOn with
 |ind n ih=>
  intro x O hn L;have hL:=b1G O;have X:gU (uG l (unG (aO l) kn)) x.f=true:=by
   cases e:gU (uG l (unG (aO l) kn)) x.f with
   |true=>rfl
   |false=>
    obtain⟨y,g⟩:=e4A (kn:=kn) (r:=r) (.inl e);rw [d1N (Z.fx x O) g]at L
    cases L
  have D:x.f.toNat<l.length:=by have:=hL.1;omega
  obtain⟨G,h1,h2,h3,h4⟩:=g9W x.f.toNat D X;unfold unG at h4;rw [h0Y,i1X]at h4;obtain⟨y,g,m⟩:=i1W.1 h4.1;rw [decide_eq_true_eq]at m;obtain⟨q,j,k1,V,_,p,rfl⟩:=d5R g;have T:=sG V;have K:=T.lt;have i:=T.op;rw [cQ K]at i p m g;have Y:=hg.lf q l[q] (h0U K) i j p.1 p.2 G l[G] (h0U h3) (by rw [<-cQ (z:=default) h3];exact h2) (by rw [<-cQ (z:=default) h3];exact m.symm);have A:(bO l[q] j).f=l[q].ks.getD j 0:=rfl;have u:=(b1G g).1;refine ih (bO l[q] j).f.toNat (by rw [A]at u⊢;omega) _ g rfl ?_;rw [m];exact h4.2
def a6J(a b:Iv):Prop:=b.1<=a.1/\a.2<=b.2
theorem g9X{a b:Iv}(h:a6J a b):ctd a b=true:=by
 unfold ctd
 rw [decide_eq_true h.1,decide_eq_true h.2];rfl
theorem a7R{q p w:Iv}(h:a6J q p)(i:(d1M q w).2=true):(d1M p w).2=true/\a6J (d1M q w).1 (d1M p w).1:=by
 unfold d1M at i⊢;dsimp only at i⊢;have g:dU p.1 p.2 w.1 w.2=true:=by
  unfold dU at i⊢;rw [decide_eq_true_eq]at i⊢;unfold a6J at h;omega
 refine⟨g,?_⟩;unfold cP
 rw [if_pos i,if_pos g];unfold a6J at h⊢;dsimp only;omega
theorem d1O{q w:Iv}(g:(d1M q w).2=true):a6J (d1M q w).1 q:=by
 unfold d1M at g⊢;dsimp only at g⊢;unfold cP
 rw [if_pos g];unfold a6J
 dsimp only;omega
theorem e4B{l:List Nd}{x:LV}{q p:Iv}{R:List Iv}(h:a6J q p)(g:(mC l x q R).2=true):(mC l x p R).2=true/\a6J (mC l x q R).1 (mC l x p R).1:=by
 unfold mC at g⊢;split at g
 ·rename_i c;rw [if_pos c,if_pos c];exact⟨rfl,h⟩
 rename_i c;rw [if_neg c,if_neg c];split at g
 ·rename_i c;rw [if_pos c,if_pos c];split at g
  ·rename_i c;rw [if_pos c,if_pos c];exact⟨rfl,h⟩
  ·rename_i c;rw [if_neg c,if_neg c];exact a7R h g
 rename_i c;rw [if_neg c,if_neg c];split at g
 ·rename_i c;rw [if_pos c,if_pos c];split at g
  ·rename_i c;rw [if_pos c,if_pos c];exact a7R h g
  ·cases g
 rename_i c;rw [if_neg c,if_neg c];split at g
 ·rename_i c;rw [if_pos c,if_pos c];split at g
  ·rename_i c;rw [if_pos c,if_pos c];exact a7R h g
  ·cases g
 ·rename_i c;rw [if_neg c,if_neg c];exact⟨rfl,h⟩
theorem h0O{l:List Nd}{x:LV}{q:Iv}{R:List Iv}(g:(mC l x q R).2=true):a6J (mC l x q R).1 q:=by
 have s:a6J q q:=⟨h3P _,h3P _⟩;unfold mC at g⊢;split at g
 ·rename_i c;rw [if_pos c];exact s
 rename_i c;rw [if_neg c];split at g
 ·rename_i c;rw [if_pos c];split at g
  ·rename_i c;rw [if_pos c];exact s
  ·rename_i c;rw [if_neg c];exact d1O g
 rename_i c;rw [if_neg c];split at g
 ·rename_i c;rw [if_pos c];split at g
  ·rename_i c;rw [if_pos c];exact d1O g
  ·cases g
 rename_i c;rw [if_neg c];split at g
 ·rename_i c;rw [if_pos c];split at g
  ·rename_i c;rw [if_pos c];exact d1O g
  ·cases g
 ·rename_i c;rw [if_neg c];exact s
theorem g9Y(o:Iv)(r:Nat)(y:Iv)(g:dB y):a6J y (pO (some o) r y):=by
 unfold pO
 dsimp only;split
 ·unfold a6J wlo whi dB bJ at*
  dsimp only;split<;>split<;>omega
 ·exact⟨h3P _,h3P _⟩
theorem h0P{l:List Nd}{un:Int->Bool}(h: ∀v,un v=false)(q:Int):gU (uG l un) q=false:=by
 cases e:gU (uG l un) q with
 |false=>rfl
 |true=>
  rcases h2D q.toNat l.length with c|c
  ·obtain⟨g,_,_,_,h4⟩:=g9W q.toNat c e;rw [h]at h4;cases h4
  ·unfold gU at e;rw [h1A,h2E (by rw [f3D];exact c)]at e
   cases e
theorem h9O{l:List Nd}(hl: ∀n∈l,bJ n.im){kn:Int->Option Iv}{r:Nat}(hf:FixK l kn r)(j: ∀x∈aO l,kn x.v≠none){x:LV}(O:x∈aO l){o:Iv}(L:kn x.v=some o):a6J (gR (rG l kn) x.f) o/\((mC l x (gR (rG l kn) x.n) (rG l kn)).2=true->a6J (mC l x (gR (rG l kn) x.n) (rG l kn)).1 o):=by
 have V: ∀v,unG (aO l) kn v=false:=fun v=>by
  cases e:unG (aO l) kn v with
  |false=>rfl
  |true=>
   unfold unG at e;rw [h0Y,i1X]at e;obtain⟨y,K,X⟩:=i1W.1 e.1;rw [decide_eq_true_eq]at X;exact absurd (by rw [X];exact e.2) (j y K)
 have T:=fun q=>h0P (l:=l) V q
 have hL:=b1G O;have g: ∀k:Int,0<=k/\k<l.length->dB (gR (rG l kn) k):=fun k h=>(a4E hl hf.ok k.toNat (by omega)).2
 obtain⟨y,K⟩:=e4A (l:=l) (un:=unG (aO l) kn) (r:=r) (x:=x) (.inr (j x O));have Z:=d1N (hf.fx x O) K;rw [L]at Z;obtain rfl:=h1M Z;have e:=d5Q l kn (unG (aO l) kn) x.v x.f x.n x.d r;rw [show sH l kn (unG (aO l) kn) ⟨x.v,x.f,x.n,x.d⟩ r=some o from K,if_neg (by rw [T];decide)]at e;have ej:j1G l kn (unG (aO l) kn) x.v x.f r=some (ijn o (pO (some o) r (gR (rG l kn) x.f))):=by
  unfold j1G
  rw [if_neg (by rw [T];decide),L];rfl
 rw [ej]at e;have w1:=g9Y o r _ (g _ hL.1);have G:=g9Y o r _ (g _ hL.2.1);have ep:p2G l kn (unG (aO l) kn) x.v x.f x.n x.d r=if r<=12 then mC l x (pO (some o) r (gR (rG l kn) x.n)) (rG l kn)else(pO (some o) r (gR (rG l kn) x.n),true):=by
  unfold p2G
  rw [L]
  by_cases c:r<=12
  ·rw [if_pos ⟨c,T _⟩,if_pos c]
  ·rw [if_neg (fun q=>c q.1),if_neg c]
 rw [ep]at e;have D: ∀a b:Iv,a6J a (ijn a b)/\a6J b (ijn a b):=fun a b=>by unfold a6J ijn;dsimp only;omega
 have u: ∀{a b c:Iv},a6J a b->a6J b c->a6J a c:=fun h1 h2=>by unfold a6J at*;omega
 generalize hz:ijn o (pO (some o) r (gR (rG l kn) x.f))=z at e;have m:a6J (gR (rG l kn) x.f) z:=by rw [<-hz];exact u w1 (D _ _).2
 by_cases c:r<=12
 ·rw [if_pos c]at e;split at e
  ·rename_i Y;have i:o=ijn z (mC l x (pO (some o) r (gR (rG l kn) x.n)) (rG l kn)).1:=h1M e;generalize hp:(mC l x (pO (some o) r (gR (rG l kn) x.n)) (rG l kn)).1=p at i;refine⟨by rw [i];exact u m (D _ _).1,fun A=>?_⟩;have:=(e4B (R:=rG l kn) (l:=l) (x:=x) G A).2;rw [hp]at this;rw [i];exact u this (D _ _).2
  ·rename_i Y;have i:o=z:=h1M e;refine⟨by rw [i];exact m,fun A=>?_⟩;exact absurd (e4B (R:=rG l kn) (l:=l) (x:=x) G A).1 Y
 ·rw [if_neg c,if_pos rfl]at e;have i:o=ijn z (pO (some o) r (gR (rG l kn) x.n)):=h1M e;generalize hp:pO (some o) r (gR (rG l kn) x.n)=p at i G;refine⟨by rw [i];exact u m (D _ _).1,fun A=>?_⟩;rw [i];exact u (h0O A) (u G (D _ _).2)
theorem h0Q{l:List Nd}(z: ∀n∈l,bJ n.im){kn:Int->Option Iv}{r:Nat}(j:FixK l kn r)(g: ∀x∈aO l,kn x.v≠none):e6L l (qJ (aO l) kn)=true:=by
 rw [g9N];intro i m;obtain⟨⟨x,y,p⟩,u⟩:=b5Z.1 (h1B m);unfold okC
 rw [cQ m,<-p,h9M y];dsimp only;rw [p,g4V (a6Z l kn) m,h0M j.sup j.ok];rw [<-p]at u;obtain⟨h1,h2⟩:=h9O z j g y u;rw [decide_eq_true (j.ok _ _ u).1,g9X h1]
 cases e:(mC l x (gR (rG l kn) x.n) (rG l kn)).2 with
 |false=>rfl
 |true=>rw [g9X (h2 e)];rfl
theorem e4C{kn:Int->Option Iv} : ∀{vs:List LV},(∀x∈vs,kn x.v≠none)->(qJ vs kn).length=vs.length
 | [],_=>rfl
 |x::r,h=>by
  have g:=e4C (kn:=kn) (vs:=r) fun y i=>h y (h2N _ i)
  unfold qJ at g⊢;rw [List.filterMap_cons]
  cases e:kn x.v with
  |none=>exact absurd e (h x h2C)
  |some z=>rw [h4C,h1O,h1O,g]
def a6K(C:List (Int×Iv)):List (Int×Iv):=C.map fun p=>(p.1,aL)
theorem h0D(C:List (Int×Iv))(p:Int×Iv):a6K (C++ [p])=a6K C++ [(p.1,aL)]:=by
 unfold a6K
 rw [h3O];rfl
theorem a6L(C:List (Int×Iv)):(a6K C).length=C.length:=h1P ..
theorem h0E(C:List (Int×Iv)):(a6K C).map Prod.fst=C.map Prod.fst:=by
 unfold a6K
 rw [i3I];rfl
theorem b1E{C:List (Int×Iv)}{p:Int×Iv}(h:p∈a6K C):p.2=aL:=by
 obtain⟨x,g,rfl⟩:=h4O.1 h;rfl
theorem a6M:dB aL:=by
 unfold dB bJ aL fK fW
 decide
theorem f2X{a:Iv}(h:dB a):ctd a aL=true:=g9X ⟨h.1.1,h.2.2⟩
theorem g5K(l:List Nd):e6L l []=true:=rfl
theorem g5E{l:List Nd}{C:List (Int×Iv)}{i:Nat}(g:i<C.length)(h:okC l C i=false):e6L l C=false:=c6X h _ g
theorem f9X{l:List Nd}{C:List (Int×Iv)}{i:Nat}(g:i<C.length)(h: ∀x∈aO l,x.v≠C[i].1):e6L l C=false:=by
 refine g5E g ?_;unfold okC
 rw [cQ g]
 cases e:vrG (aO l) C[i].1 with
 |none=>rfl
 |some x=>exact absurd (e6K e).2 (h x (e6K e).1)
theorem i0E{l:List Nd}{C:List (Int×Iv)}{i:Nat}(g:i<C.length)(h:lI (C.take i) C[i].1=true):e6L l C=false:=by
 refine g5E g ?_;unfold okC
 rw [cQ g]
 cases e:vrG (aO l) C[i].1 with
 |none=>rfl
 |some x=>
  dsimp only;rw [h];rfl
theorem h0T{l:List Nd}{C:List (Int×Iv)}{i:Nat}(g:i<C.length)(h: ¬C[i].2.1<=C[i].2.2):e6L l C=false:=by
 refine g5E g ?_;unfold okC
 rw [cQ g]
 cases e:vrG (aO l) C[i].1 with
 |none=>rfl
 |some x=>
  dsimp only;rw [decide_eq_false h,h3Z,h5M]
theorem h9D{l:List Nd}(K: ∀n∈l,bJ n.im)(kn:Int->Option Iv):e6L l (a6K (qJ (aO l) kn))=true:=by
 rw [g9N];intro i g;have j:i< (qJ (aO l) kn).length:=by rw [a6L]at g;exact g
 have A:KOk (lP (a6K (qJ (aO l) kn))):=a4J fun p G=>by rw [b1E G];exact a6M
 have h1:(a6K (qJ (aO l) kn))[i].1=(qJ (aO l) kn)[i].1:=by simp [a6K]
 have h2:(a6K (qJ (aO l) kn))[i].2=aL:=b1E (h1B g);obtain⟨⟨x,r,z⟩,T⟩:=b5Z.1 (h1B j);obtain⟨L,V,O⟩:=b1G r;have D:((a6K (qJ (aO l) kn)).map Prod.fst).Nodup:=by rw [h0E];exact a6Z l kn
 have y:=g4V D g;have v:vrG (aO l) (a6K (qJ (aO l) kn))[i].1=some x:=by rw [h1,<-z];exact h9M r
 have m: ∀i,i<l.length->okI ((rG l (lP (a6K (qJ (aO l) kn)))).getD i (0,0)):=a4E K A
 unfold okC
 rw [cQ g,v];dsimp only;rw [y,h2,show decide (aL.1<=aL.2)=true from by decide,show ctd (gR (rG l (lP (a6K (qJ (aO l) kn)))) x.f) aL=true from f2X (m _ (by omega)).2]
 cases e:(mC l x (gR (rG l (lP (a6K (qJ (aO l) kn)))) x.n) (rG l (lP (a6K (qJ (aO l) kn))))).2 with
 |false=>rfl
 |true=>
  have u:=f3J (lH _ _) m (show okI (gR (rG l (lP (a6K (qJ (aO l) kn)))) x.n)from m _ (by omega)) e;rw [f2X u.2];rfl
theorem i1E{l:List Nd}{x:LV}(h:x∈aO l):x.v%16≠0/\x.v<=255/\1<=x.v:=by
 obtain⟨im,j,e,i,g,_⟩:=h9L h;omega
def i1F(C:List (Int×Iv))(p:Int×Iv):List (Int×Iv):=p::C.tail
theorem g8B{l:List Nd}{C:List (Int×Iv)}{v:Int}{r:Iv}(h:v%16=0\/256<=v):e6L l (i1F C (v,r))=false:=by
 refine f9X (i:=0) (Nat.zero_lt_succ _) fun x g e=>?_
 have:=i1E g;have:x.v=v:=e;omega
theorem h9G{l:List Nd}{C:List (Int×Iv)}{v:Int}{r:Iv}(h: ¬r.1<=r.2):e6L l (i1F C (v,r))=false:=h0T (i:=0) (Nat.zero_lt_succ _) h
theorem i0H{l:List Nd}{C:List (Int×Iv)}(h:0<C.length):e6L l (C++ [C[0]])=false:=by
 refine i0E (i:=C.length) (by rw [h1E];exact h1G _) ?_;rw [List.take_left,h7P (h1D _)];unfold lI
 rw [i1W];exact⟨C[0],h1B h,by simp⟩
theorem i0I{l:List Nd}{kn:Int->Option Iv}(g: ∀x∈aO l,kn x.v≠none)(h:(qJ (aO l) kn).length=0)(p:Int×Iv):e6L l [p]=false:=by
 have e:=e4C g;rw [h]at e;refine f9X (i:=0) (Nat.zero_lt_succ _) fun x j=>?_
 rw [i2A.1 e.symm]at j
 cases j
end Go.M14
end
end
