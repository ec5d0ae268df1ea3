/-
  Texts of this proof, one after the other.
  Conditions: none.
-/
import Derived.Test.YthimicfahhgpcaaGreatW5
set_option linter.unusedVariables false
set_option linter.unusedSimpArgs false
set_option maxRecDepth 100000
set_option maxHeartbeats 4000000
noncomputable section
variable{i j k m n b q:Nat}{x y z u w:Int}{h g:Go.Pv.Heap}{d l:List Go.Pv.IV}{K L:Y12}{p s t:Go.Pv.IV}{D:Go.Pv.Meta}{V W:List Go.Value}{U:Go.TypeId}{o:Bool}{X Y:Go.Value}{r e:Y11}{O:Go.Oper}{N:Y10}{H:Array Go.Value}
section
namespace Go.M13
open Go.Pv
theorem Np{n k:Nat}(h:2^k<=n):gA n=k+gA (n/2^k):=by
 have g:0<2^k:=JD JF;have j:n≠0:=JF;have hd:n/2^k≠0:=by
  have:=(IG g).2 (show 1*2^k<=n by omega);omega
 unfold gA
 rw [if_neg j,if_neg hd]
 suffices hs:n.log2=k+(n/2^k).log2 by omega
 obtain⟨h1,h2⟩:=(GM hd (k:=(n/2^k).log2)).1 rfl;refine(GM j).2 ⟨?_,?_⟩
 ·rw [Nat.pow_add,HV];exact(IG g).1 h1
 ·rw [EV,Nat.pow_add,HV (2^k)];exact(GH g).1 h2
theorem Cd{n k:Nat}(h:n<2^k):gA n<=k:=by
 unfold gA
 split
 ·omega
 ·rename_i g;obtain⟨h1,h2⟩:=(GM g (k:=n.log2)).1 rfl;rcases BB n.log2 k with q|q
  ·omega
  ·have:=FJ (show 0<2 by omega) q;omega
theorem b9I(n:Nat):n<2^gA n:=by
 unfold gA
 split
 ·omega
 ·rename_i g;exact((GM g (k:=n.log2)).1 rfl).2
theorem a0O(x y l j m g:Int)(z:x=j*4294967296+l)(A:y=g*4294967296+m):
  x*y=(j*g)*18446744073709551616+(j*m+l*g)*4294967296+l*m:=by
 subst z A;simp only [Int.add_mul,Int.mul_add];have p:j*4294967296*(g*4294967296)=(j*g)*18446744073709551616:=by
  rw [Int.mul_assoc,Int.mul_left_comm 4294967296 g,<-Int.mul_assoc];rfl
 have q:l*(g*4294967296)=l*g*4294967296:=by rw [Int.mul_assoc]
 have r:j*4294967296*m=j*m*4294967296:=by rw [Int.mul_assoc,FT 4294967296,<-Int.mul_assoc]
 rw [p,q,r];omega
theorem wC{x y:Int}(h1:0<=x)(h2:x<=4294967295)(h3:0<=y)(h4:y<=4294967295):0<=x*y/\x*y<=18446744065119617025:=
 ⟨Int.mul_nonneg h1 h3,Int.mul_le_mul h2 h4 h3 JF⟩
def E4(x y:Int):Int:=x*y/18446744073709551616
theorem uQ(n:Int):IntKind.u64.wrap n=n%18446744073709551616:=by
 unfold IntKind.wrap
 simp [IntKind.bits,IntKind.signed]
theorem b1V(x:Int):cW .u64 x 4294967295=x%4294967296:=by
 unfold cW
 have h:(BitVec.ofInt IntKind.u64.bits x&&&BitVec.ofInt IntKind.u64.bits 4294967295).toNat=(x%4294967296).toNat:=by
  have e:IntKind.u64.bits=64:=rfl;rw [e,BitVec.toNat_and];have g:(BitVec.ofInt 64 4294967295).toNat=2^32-1:=JG;rw [g,GL,BitVec.toNat_ofInt];omega
 rw [h,uQ];omega
theorem a8J{x y:Int}(L:0<=x)(m:x<=18446744073709551615)(O:0<=y)(D:y<=18446744073709551615):
  x/4294967296*(y/4294967296)+(x/4294967296*(y%4294967296)+x%4294967296*(y%4294967296)/4294967296)/4294967296
   +((x/4294967296*(y%4294967296)+x%4294967296*(y%4294967296)/4294967296)%4294967296+x%4294967296*(y/4294967296))/4294967296=E4 x y:=by
 have z:0<=x%4294967296/\x%4294967296<=4294967295:=JF;have A:0<=x/4294967296/\x/4294967296<=4294967295:=JF;have G:0<=y%4294967296/\y%4294967296<=4294967295:=JF;have K:0<=y/4294967296/\y/4294967296<=4294967295:=JF;have g:x=x/4294967296*4294967296+x%4294967296:=JF;have j:y=y/4294967296*4294967296+y%4294967296:=JF;generalize x%4294967296=x0 at*
 generalize x/4294967296=x1 at*
 generalize y%4294967296=y0 at*
 generalize y/4294967296=y1 at*
 have l:=a0O x y x0 x1 y0 y1 g j;have a:=wC (x:=x0) (y:=y0) JF JF JF JF;have b:=wC (x:=x0) (y:=y1) JF JF JF JF;have c:=wC (x:=x1) (y:=y0) JF JF JF JF;unfold E4
 rw [l];generalize x0*y0=p at*
 generalize x0*y1=q at*
 generalize x1*y0=r at*
 generalize x1*y1=s at*
 omega
theorem c1M{x y h:Int}(l:inR x)(m:inR y)(j:h=E4 (x%18446744073709551616) (y%18446744073709551616)- (if x<0 then y else 0)- (if y<0 then x else 0)):
  (IntKind.i64.wrap h==(IntKind.i64.wrap (x*y)).fdiv (2^63))=jL (x*y):=by
 unfold inR at l m;have r: -85070591730234615865843651857942052864<=x*y/\x*y<=85070591730234615865843651857942052864:=by
  have h1:(x*y).natAbs<=85070591730234615865843651857942052864:=by
   rw [Int.natAbs_mul];exact Nat.mul_le_mul (show x.natAbs<=9223372036854775808 by omega) (show y.natAbs<=9223372036854775808 by omega)
  omega
 have g: ∀z:Int,z.fdiv (2^63)=z/9223372036854775808:=fun z=>by
  rw [show(2:Int) ^63=9223372036854775808 by decide];exact CA _ JF
 have A:h=x*y/18446744073709551616\/h=x*y/18446744073709551616+18446744073709551616:=by
  rw [j];unfold E4
  rcases FC x 0 with p|p<;>rcases FC y 0 with q|q
  ·rw [if_pos p,if_pos q,show x%18446744073709551616=x+18446744073709551616 by omega,show y%18446744073709551616=y+18446744073709551616 by omega,
    show(x+18446744073709551616)*(y+18446744073709551616)=x*y+18446744073709551616*x+18446744073709551616*y+340282366920938463463374607431768211456 by grind]
   right
   omega
  ·rw [if_pos p,if_neg JF,show x%18446744073709551616=x+18446744073709551616 by omega,show y%18446744073709551616=y by omega,
    show(x+18446744073709551616)*y=x*y+18446744073709551616*y by grind]
   left
   omega
  ·rw [if_neg JF,if_pos q,show x%18446744073709551616=x by omega,show y%18446744073709551616=y+18446744073709551616 by omega,
    show x*(y+18446744073709551616)=x*y+18446744073709551616*x by grind]
   left
   omega
  ·rw [if_neg JF,if_neg JF,show x%18446744073709551616=x by omega,show y%18446744073709551616=y by omega]
   left
   omega
 rw [g,X2,X2];unfold jL
 generalize x*y=z at*
 rw [FS];simp only [beq_iff_eq,AD,decide_eq_true_eq];omega
theorem Iz{x y:Int}(V:0<=x)(A:x<=18446744073709551615)(X:0<=y)(D:y<=18446744073709551615):
  IntKind.wrap IntKind.u64
   (IntKind.wrap IntKind.u64
     (IntKind.wrap IntKind.u64 (Int.fdiv x (4294967296:Int)*Int.fdiv y (4294967296:Int))+
      Int.fdiv
       (IntKind.wrap IntKind.u64
        (IntKind.wrap IntKind.u64 (Int.fdiv x (4294967296:Int)*cW IntKind.u64 y (4294967295:Int))+
         Int.fdiv (IntKind.wrap IntKind.u64 (cW IntKind.u64 x (4294967295:Int)*cW IntKind.u64 y (4294967295:Int))) (4294967296:Int)))
       (4294967296:Int))+
    Int.fdiv
     (IntKind.wrap IntKind.u64
      (cW IntKind.u64
        (IntKind.wrap IntKind.u64
         (IntKind.wrap IntKind.u64 (Int.fdiv x (4294967296:Int)*cW IntKind.u64 y (4294967295:Int))+
          Int.fdiv (IntKind.wrap IntKind.u64 (cW IntKind.u64 x (4294967295:Int)*cW IntKind.u64 y (4294967295:Int))) (4294967296:Int)))
        (4294967295:Int)+
       IntKind.wrap IntKind.u64 (cW IntKind.u64 x (4294967295:Int)*Int.fdiv y (4294967296:Int))))
     (4294967296:Int))=E4 x y:=by
 have f: ∀z:Int,z.fdiv 4294967296=z/4294967296:=fun z=>CA _ JF
 rw [<-a8J V A X D];simp only [b1V,f,uQ];have g:0<=x%4294967296/\x%4294967296<=4294967295:=JF;have j:0<=x/4294967296/\x/4294967296<=4294967295:=JF;have l:0<=y%4294967296/\y%4294967296<=4294967295:=JF;have m:0<=y/4294967296/\y/4294967296<=4294967295:=JF;generalize x%4294967296=x0 at*
 generalize x/4294967296=x1 at*
 generalize y%4294967296=y0 at*
 generalize y/4294967296=y1 at*
 have a:=wC g.1 g.2 l.1 l.2;have b:=wC g.1 g.2 m.1 m.2;have c:=wC j.1 j.2 l.1 l.2;have d:=wC j.1 j.2 m.1 m.2;generalize x0*y0=p at*
 generalize x0*y1=q at*
 generalize x1*y0=r at*
 generalize x1*y1=s at*
 have G:p%18446744073709551616=p:=JF;have K:q%18446744073709551616=q:=JF;have L:r%18446744073709551616=r:=JF;have O:s%18446744073709551616=s:=JF;rw [G,K,L,O];have R:(r+p/4294967296)%18446744073709551616=r+p/4294967296:=JF;rw [R];omega
theorem a8K(a b:Int):IntKind.i64.wrap (IntKind.u64.wrap (IntKind.u64.wrap a*IntKind.u64.wrap b))=IntKind.i64.wrap (a*b):=by
 rw [uQ,uQ,uQ,<-Int.mul_emod,X2,X2];omega
theorem a2H(a b:Int):IntKind.i64.wrap (IntKind.i64.wrap a-b)=IntKind.i64.wrap (a-b):=by
 rw [X2,X2,X2];omega
theorem J8{x:Int}(k p:Nat)(g:2^k=p)(h:(p:Int)<=x):gA x.toNat=k+gA (x/p).toNat:=by
 subst g;have j:0<=x:=by
  have:0<2^k:=JD JF;omega
 obtain⟨n,rfl⟩:=Int.eq_ofNat_of_zero_le j;rw [Np (n:=(n:Int).toNat) (k:=k) JF]
 congr 2
theorem yI{x y h:Int}(j:inR x)(l:inR y)(g:h=E4 (IntKind.u64.wrap x) (IntKind.u64.wrap y)- (if x<0 then y else 0)- (if y<0 then x else 0)):
  (IntKind.i64.wrap h==(IntKind.i64.wrap (x*y)).fdiv 9223372036854775808)=jL (x*y):=by
 rw [uQ,uQ]at g;have:=c1M j l g
 rwa [show(2:Int) ^63=9223372036854775808 by decide]at this
def mG(o a b c d:Int):Int×Int:=
 if o=9 then if 0<=a/\0<=c then(0,min b d)else if 0<=a then(0,b)else if 0<=c then(0,d)else(lG,mF)
 else if a<0\/c<0 then(lG,mF)
 else(if o=10 then max a c else 0,Fl (max b d))
theorem Xd{m:Int}(h0:0<=m)(h1:m<=9223372036854775807):
  IntKind.i64.wrap (IntKind.i64.wrap (1*2^ (min (IntKind.u64.wrap (gA m.toNat:Int)).toNat 64))-1)=Fl m:=by
 have l:gA m.toNat<=63:=Cd (show m.toNat<2^63 by rw [show(2:Nat) ^63=9223372036854775808 by decide];omega);rw [uQ];have g:(min ((gA m.toNat:Int)%18446744073709551616).toNat 64)=gA m.toNat:=JF;rw [g];unfold Fl
 have p:2^gA m.toNat<=2^63:=FJ JF l;rw [show(2:Nat) ^63=9223372036854775808 by decide]at p;have q:0<2^gA m.toNat:=JD JF;have j:((2:Int) ^gA m.toNat)=((2^gA m.toNat:Nat):Int):=JH;rw [j];generalize 2^gA m.toNat=k at*
 rw [X2,X2];omega
def Ix(a b c d:Int):Int:=min (min a b) (min c d)
def Iw(a b c d:Int):Int:=max (max a b) (max c d)
def W6(a b c d:Int):Int×Int:=
 if jL (a*c) &&jL (a*d) &&jL (b*c) &&jL (b*d)then(Ix (a*c) (a*d) (b*c) (b*d),Iw (a*c) (a*d) (b*c) (b*d))else(lG,mF)
def W5(a b c d:Int):Int×Int:=
 if c<1 then(lG,mF)else(Ix (a.tdiv c) (a.tdiv d) (b.tdiv c) (b.tdiv d),Iw (a.tdiv c) (a.tdiv d) (b.tdiv c) (b.tdiv d))
def pH(o a b c d:Int):Int×Int:=
 if o<4\/19<o\/b<a\/d<c then(lG,mF)
 else if a=b/\c=d then(oG o a c,oG o a c)
 else if o=4 then V8 (a+c) (b+d)
 else if o=5 then V8 (a-d) (b-c)
 else if o=6 then W6 a b c d
 else if o=7 then W5 a b c d
 else if o=8 then G6 a b c d
 else if o=9\/o=10\/o=11 then mG o a b c d
 else if o=12\/o=13\/o=14 then vX o a b c d
 else Dp o a b c d
end Go.M13
end
section
namespace Go.M13
def fG(r:Int×Int)(n:Int):Prop:=r.1<=n/\n<=r.2
theorem fH(n:Int)(h:inR n):fG (lG,mF) n:=h
theorem lin{a b s:Int}(k:Int)(h1:a<=s)(h2:s<=b):min (a*k) (b*k)<=s*k/\s*k<=max (a*k) (b*k):=by
 rcases FC k 0 with g|g
 ·have:=GN h1 (show k<=0 by omega);have:=GN h2 (show k<=0 by omega);omega
 ·have:=DY h1 g;have:=DY h2 g;omega
theorem gL{n:Int}(h:inR n):IntKind.i64.wrap n=n:=by
 unfold inR at h;exact AF _ JF
section
variable {a b c d s t:Int} (h1:a<=s) (h2:s<=b) (h3:c<=t) (h4:t<=d)
include h1 h2 h3 h4
theorem c9Q:fG (W6 a b c d) (IntKind.i64.wrap (s*t)):=by
 unfold W6
 split
 ·rename_i h;have j:=lin c h1 h2;have l:=lin d h1 h2;have g:=lin s h3 h4;rw [FT t s,FT c s,FT d s]at g;unfold jL at h;simp only [AD,decide_eq_true_eq]at h;rw [gL (by unfold inR;omega)];unfold fG Ix Iw
  simp only;omega
 ·exact fH _ (bW _)
theorem c6O:fG (V8 (a+c) (b+d)) (IntKind.i64.wrap (s+t)):=by
 unfold V8
 split
 ·rename_i h;unfold jL at h;simp only [AD,decide_eq_true_eq]at h;rw [gL (by unfold inR;omega)];unfold fG
  simp only;omega
 ·exact fH _ (bW _)
theorem d1T:fG (V8 (a-d) (b-c)) (IntKind.i64.wrap (s-t)):=by
 unfold V8
 split
 ·rename_i h;unfold jL at h;simp only [AD,decide_eq_true_eq]at h;rw [gL (by unfold inR;omega)];unfold fG
  simp only;omega
 ·exact fH _ (bW _)
end
theorem L8{s t d:Int}(g:0<=s)(l:0<t)(j:t<=d):s.tdiv d<=s.tdiv t:=by
 rw [DA g,DA g];apply IH l;have h0:0<=s/d:=IA g JF;have h1:s/d*t<=s/d*d:=EY j h0;have h2:s/d*d<=s:=Int.ediv_mul_le s JF;omega
theorem Hp{s t d:Int}(l:s<=0)(j:0<t)(g:t<=d):s.tdiv t<=s.tdiv d:=by
 have h:=L8 (s:= -s) JF j g;rw [Int.neg_tdiv,Int.neg_tdiv]at h;omega
theorem Kc{s t:Int}(g:inR s)(j:1<=t):nO s t=s.tdiv t:=by
 unfold nO
 rw [if_neg JF,if_neg JF,Ft g JF JF]
theorem c7V{a b c d s t:Int}(h1:a<=s)(h2:s<=b)(h3:c<=t)(h4:t<=d)(g:inR s):fG (W5 a b c d) (nO s t):=by
 unfold W5
 split
 ·refine fH _ ?_;unfold nO
  split
  ·unfold inR;omega
  split<;>exact bW _
 ·rename_i r;rw [Kc g JF];have j:a.tdiv t<=s.tdiv t:=Int.tdiv_le_tdiv JF h1;have l:s.tdiv t<=b.tdiv t:=Int.tdiv_le_tdiv JF h2;have m:min (a.tdiv c) (a.tdiv d)<=a.tdiv t:=by
   rcases FC a 0 with q|q
   ·have:=Hp (s:=a) JF (show 0<c by omega) h3;omega
   ·have:=L8 (s:=a) JF (show 0<t by omega) h4;omega
  have p:b.tdiv t<=max (b.tdiv c) (b.tdiv d):=by
   rcases FC b 0 with q|q
   ·have:=Hp (s:=b) JF (show 0<t by omega) h4;omega
   ·have:=L8 (s:=b) JF (show 0<c by omega) h3;omega
  unfold fG Ix Iw
  simp only;omega
theorem b0N{s t:Int}(g:inR s)(m:1<=t):IntKind.i64.wrap (s-IntKind.i64.wrap (nO s t*t))=s.tmod t:=by
 rw [Kc g m];have h:=Int.mul_tdiv_add_tmod s t;rw [FT]at h;have p:(s.tmod t).natAbs<=s.natAbs:=by
  rw [IB];exact Nat.mod_le _ _
 have l:(0<=s->0<=s.tmod t)/\(s<=0->s.tmod t<=0):=by
  refine⟨fun q=>GO _ q,fun q=>?_⟩;have:=GO (a:= -s) t JF;rw [Int.neg_tmod]at this;omega
 unfold inR at g;have j:IntKind.i64.wrap (s.tdiv t*t)=s.tdiv t*t:=gL (by unfold inR;omega);rw [j];rw [gL (by unfold inR;omega)];omega
theorem d0H{a b c d s t:Int}(h1:a<=s)(h2:s<=b)(h3:c<=t)(h4:t<=d)(g:inR s):
  fG (G6 a b c d) (if t=0 then 0 else IntKind.i64.wrap (s-IntKind.i64.wrap (nO s t*t))):=by
 unfold G6
 split
 ·refine fH _ ?_;split
  ·unfold inR;omega
  ·exact bW _
 ·rename_i m;rw [if_neg (show¬t=0 by omega),b0N g JF];have l:(s.tmod t).natAbs<=s.natAbs:=by
   rw [IB];exact Nat.mod_le _ _
  have p:(s.tmod t).natAbs<t.natAbs:=by
   rw [IB];exact HM _ JF
  have j:(0<=s->0<=s.tmod t)/\(s<=0->s.tmod t<=0):=by
   refine⟨fun q=>GO _ q,fun q=>?_⟩;have:=GO (a:= -s) t JF;rw [Int.neg_tmod]at this;omega
  unfold fG
  refine⟨?_,?_⟩<;>dsimp only<;>split<;>omega
theorem zM{a:Int}(h0:0<=a)(h1:a<=9223372036854775807):(BitVec.ofInt 64 a).toNat=a.toNat:=by
 rw [BitVec.toNat_ofInt];omega
theorem Z4{s t:Int}(h0:0<=s)(h1:s<=9223372036854775807):0<=sF s t/\sF s t<=s:=by
 unfold sF
 have e:IntKind.i64.bits=64:=rfl;rw [e,BitVec.toNat_and,zM h0 h1];have h:=Nat.and_le_left (n:=s.toNat) (m:=(BitVec.ofInt 64 t).toNat);rw [gL (by unfold inR;omega)];omega
theorem N3{s t:Int}(h0:0<=t)(h1:t<=9223372036854775807):0<=sF s t/\sF s t<=t:=by
 unfold sF
 have e:IntKind.i64.bits=64:=rfl;rw [e,BitVec.toNat_and,zM h0 h1];have h:=Nat.and_le_right (n:=(BitVec.ofInt 64 s).toNat) (m:=t.toNat);rw [gL (by unfold inR;omega)];omega
theorem rJ{m x:Int}(h0:0<=x)(h1:x<=m):x.toNat<2^gA m.toNat:=by
 have:=b9I m.toNat;omega
theorem Au{m:Int}(h1:m<=9223372036854775807):2^gA m.toNat<=9223372036854775808:=by
 have g:gA m.toNat<=63:=Cd (show m.toNat<2^63 by rw [show(2:Nat) ^63=9223372036854775808 by decide];omega);have:=FJ (show 0<2 by omega) g
 rwa [show(2:Nat) ^63=9223372036854775808 by decide]at this
theorem c8F{s t m:Int}(h0:0<=s)(h1:0<=t)(j:s<=m)(y:t<=m)(g:m<=9223372036854775807):s<=ior s t/\t<=ior s t/\ior s t<=Fl m:=by
 unfold ior Fl
 have e:IntKind.i64.bits=64:=rfl;rw [e,BitVec.toNat_or,zM h0 JF,zM h1 JF];have l:=Nat.or_lt_two_pow (rJ h0 j) (rJ h1 y);have p:=Nat.left_le_or (n:=s.toNat) (m:=t.toNat);have q:=Nat.right_le_or (n:=s.toNat) (m:=t.toNat);have k:=Au g;generalize s.toNat|||t.toNat=r at*
 generalize 2^gA m.toNat=z at*
 rw [gL (by unfold inR;omega)];omega
theorem b8Z{s t m:Int}(h0:0<=s)(h1:0<=t)(j:s<=m)(p:t<=m)(g:m<=9223372036854775807):0<=G7 s t/\G7 s t<=Fl m:=by
 unfold G7 Fl
 have e:IntKind.i64.bits=64:=rfl;rw [e,BitVec.toNat_xor,zM h0 JF,zM h1 JF];have l:=Nat.xor_lt_two_pow (rJ h0 j) (rJ h1 p);have k:=Au g;generalize s.toNat^^^t.toNat=r at*
 generalize 2^gA m.toNat=z at*
 rw [gL (by unfold inR;omega)];omega
theorem Ib(s t:Int):inR (sF s t):=bW _
theorem Vc(s t:Int):inR (ior s t):=bW _
theorem Ii(s t:Int):inR (G7 s t):=bW _
theorem c6T{o a b c d s t:Int}(g:o=9\/o=10\/o=11)(h1:a<=s)(h2:s<=b)(h3:c<=t)(h4:t<=d)(j:b<=9223372036854775807)(hd:d<=9223372036854775807):
  fG (mG o a b c d) (if o=9 then sF s t else if o=10 then ior s t else G7 s t):=by
 rcases g with rfl|rfl|rfl
 ·rw [if_pos rfl];unfold mG
  rw [if_pos rfl];split
  ·have p:=Z4 (s:=s) (t:=t) JF JF;have q:=N3 (s:=s) (t:=t) JF JF;unfold fG;simp only;omega
  split
  ·have p:=Z4 (s:=s) (t:=t) JF JF;unfold fG;simp only;omega
  split
  ·have q:=N3 (s:=s) (t:=t) JF JF;unfold fG;simp only;omega
  ·exact fH _ (Ib _ _)
 ·rw [if_neg JG,if_pos rfl];unfold mG
  rw [if_neg JG];split
  ·exact fH _ (Vc _ _)
  ·have:=c8F (s:=s) (t:=t) (m:=max b d) JF JF JF JF JF;rw [if_pos rfl];unfold fG;simp only;omega
 ·rw [if_neg JG,if_neg JG];unfold mG
  rw [if_neg JG];split
  ·exact fH _ (Ii _ _)
  ·have:=b8Z (s:=s) (t:=t) (m:=max b d) JF JF JF JF JF;rw [if_neg JG];unfold fG;simp only;omega
theorem sR(z:Int){p:Int}(g:0<p):z.fdiv p=z/p:=CA _ JF
theorem Xq{a p:Int}(g:0<p)(j:p<=9223372036854775808)(h:Sh a p=true):S1 a p=a*p:=by
 unfold Sh at h;simp only [beq_iff_eq]at h;rw [sR _ g]at h;have h1:=Int.mul_ediv_add_emod (S1 a p) p;have h2:=EW (S1 a p) (show p≠0 by omega);have h3:=EH (S1 a p) g;rw [h,FT]at h1;unfold S1 at*
 rw [X2]at*
 omega
theorem d1S{a b s p:Int}(m:0<p)(g:p<=9223372036854775808)(h1:a<=s)(h2:s<=b)(q:Sh a p=true)(r:Sh b p=true):
  fG (S1 a p,S1 b p) (IntKind.i64.wrap (s*p)):=by
 have j:=Xq m g q;have l:=Xq m g r;have y:inR (a*p):=j▸bW _;have z:inR (b*p):=l▸bW _;have A:=DY h1 (show 0<=p by omega);have D:=DY h2 (show 0<=p by omega);unfold inR at y z;rw [gL (by unfold inR;omega)];exact⟨by rw [j];exact A,by rw [l];exact D⟩
theorem qS{a s p:Int}(g:0<p)(h:a<=s):a/p<=s/p:=Int.ediv_le_ediv g h
theorem qT{s p:Int}(g:0<p):(0<=s->0<=s/p/\s/p<=s)/\(s<0->s<=s/p/\s/p<= -1):=by
 refine⟨fun h=>⟨IA h JF,Int.ediv_le_self p h⟩,fun h=>⟨?_,?_⟩⟩
 ·apply IH g;have h1:=Int.mul_le_mul_of_nonpos_left (show s<=0 by omega) (show(1:Int)<=p by omega);omega
 ·have:s/p<0:=Int.ediv_neg_of_neg_of_pos h g;omega
theorem a1D{k:Nat}(g:k<=64):(2:Int) ^ (64-k)*2^k=18446744073709551616:=by
 rw [<-Int.pow_add,show 64-k+k=64 by omega];decide
theorem Jx(k:Nat):(0:Int)<2^k:=JE JF
theorem b0E{k:Nat}(g:k<=63):(2:Int) ^k<=9223372036854775808:=by
 have h:=FJ (show 0<2 by omega) g;rw [show(2:Nat) ^63=9223372036854775808 by decide]at h;have j:((2:Int) ^k)=((2^k:Nat):Int):=JH;omega
theorem d8G{o a b c d s t:Int}(K:o=12\/o=13\/o=14)(h1:a<=s)(h2:s<=b)(h3:c<=t)(h4:t<=d)(O:inR s)(Y:b<=9223372036854775807)(X: -9223372036854775808<=a):
  fG (vX o a b c d) (vF o s t):=by
 unfold vF
 have G:min (C2 t).toNat IntKind.i64.bits=(t%64).toNat:=by
  rw [c1K,c6U];omega
 have D:min (C2 t).toNat IntKind.u64.bits=(t%64).toNat:=G;rw [G,D,uQ];have l:(t%64).toNat<=63:=JF;generalize hk:(t%64).toNat=k at*
 have g:=Jx k;have y:=b0E l;have A:=a1D (k:=k) JF;unfold inR at O;rw [sR _ g,sR _ g];rcases K with rfl|rfl|rfl
 ·rw [if_pos rfl];unfold vX
  rw [if_pos rfl];split
  ·rename_i j;obtain rfl:t=c:=JF;rw [hk];split
   ·rename_i m;exact d1S g y h1 h2 m.1 m.2
   ·exact fH _ (bW _)
  ·exact fH _ (bW _)
 ·rw [if_neg JG,if_pos rfl];unfold vX
  rw [if_neg JG,if_neg JG];split
  ·rename_i j;obtain rfl:t=c:=JF;split
   ·rename_i V;have r:k=0:=JF;subst r;rw [Int.pow_zero,Int.ediv_one,X2];unfold fG;simp only;omega
   ·rename_i V;split
    ·rw [hk,sR _ g,sR _ g];have e:s%18446744073709551616=s:=JF;rw [e];have q:=(qT (s:=s) g).1 JF;rw [gL (by unfold inR;omega)];exact⟨qS g h1,qS g h2⟩
    ·have p:(64-t%64).toNat=64-k:=JF;rw [p];have Z:=Jx (64-k);have L:=b0E (k:=64-k) JF;have hu:s%18446744073709551616/2^k<2^ (64-k):=Int.ediv_lt_of_lt_mul g (by rw [A];omega);have R:0<=s%18446744073709551616/2^k:=IA JF JF;generalize s%18446744073709551616/2^k=u at*
     generalize(2:Int) ^ (64-k)=v at*
     rw [X2,X2,X2];unfold fG;simp only;omega
  ·split
   ·have e:s%18446744073709551616=s:=JF;rw [e];have q:=(qT (s:=s) g).1 JF;rw [gL (by unfold inR;omega)];unfold fG;simp only;omega
   ·exact fH _ (bW _)
 ·rw [if_neg JG,if_neg JG,if_pos rfl];unfold vX
  rw [if_neg JG,if_pos rfl];split
  ·rename_i j;obtain rfl:t=c:=JF;rw [hk,sR _ g,sR _ g];exact⟨qS g h1,qS g h2⟩
  ·have q:=qT (s:=s) g;unfold fG;simp only
   rcases FC s 0 with z|z
   ·have:=q.2 z;omega
   ·have:=q.1 z;omega
theorem c7T{o a b c d s t:Int}(m:15<=o/\o<=19)(h1:a<=s)(h2:s<=b)(h3:c<=t)(h4:t<=d)(j:inR s)(l:inR t):
  fG (Dp o a b c d) (vF o s t):=by
 have g:o=15\/o=16\/o=17\/o=18\/o=19:=JF;unfold inR at j l;unfold vF Dp W1 fG pP fL
 rw [uQ,uQ];rcases g with rfl|rfl|rfl|rfl|rfl<;>simp only [Int.reduceEq,if_false,if_true,beq_iff_eq,bne_iff_ne,decide_eq_true_eq]<;>grind
theorem a3P{o a b c d s t:Int}(p:4<=o/\o<=19)(h1:a<=s)(h2:s<=b)(h3:c<=t)(h4:t<=d)(m:inR a)(l:inR b)(r:inR c)(hd:inR d):
  fG (pH o a b c d) (oG o s t):=by
 have g:inR s:=by unfold inR at*;omega
 have q:inR t:=by unfold inR at*;omega
 unfold pH
 rw [if_neg JF];split
 ·rename_i h;obtain rfl:s=a:=JF;obtain rfl:t=c:=JF;exact⟨DW _,DW _⟩
 ·have j:o=4\/o=5\/o=6\/o=7\/o=8\/ (o=9\/o=10\/o=11) \/ (o=12\/o=13\/o=14) \/15<=o:=JF;rcases j with rfl|rfl|rfl|rfl|rfl|h|h|h
  ·rw [if_pos rfl];exact c6O h1 h2 h3 h4
  ·rw [if_neg JG,if_pos rfl];exact d1T h1 h2 h3 h4
  ·rw [if_neg JG,if_neg JG,if_pos rfl];exact c9Q h1 h2 h3 h4
  ·rw [if_neg JG,if_neg JG,if_neg JG,if_pos rfl];exact c7V h1 h2 h3 h4 g
  ·rw [if_neg JG,if_neg JG,if_neg JG,if_neg JG,if_pos rfl];exact d0H h1 h2 h3 h4 g
  ·rw [if_neg JF,if_neg JF,if_neg JF,if_neg JF,if_neg JF,if_pos h];have:=c6T h h1 h2 h3 h4 l.2 hd.2;unfold oG
   rw [if_neg JF,if_neg JF,if_neg JF,if_neg JF,if_neg JF];rcases h with rfl|rfl|rfl<;>exact this
  ·rw [if_neg JF,if_neg JF,if_neg JF,if_neg JF,if_neg JF,if_neg JF,if_pos h];unfold oG
   rw [if_neg JF,if_neg JF,if_neg JF,if_neg JF,if_neg JF,if_neg JF,if_neg JF,if_neg JF];exact d8G h h1 h2 h3 h4 g l.2 m.1
  ·rw [if_neg JF,if_neg JF,if_neg JF,if_neg JF,if_neg JF,if_neg JF,if_neg JF];unfold oG
   rw [if_neg JF,if_neg JF,if_neg JF,if_neg JF,if_neg JF,if_neg JF,if_neg JF,if_neg JF];exact c7T ⟨h,p.2⟩ h1 h2 h3 h4 g q
theorem I4{a:Int}(h:inR a):Ic a= -1-a:=by
 unfold inR at h;unfold Ic
 have e:IntKind.i64.bits=64:=rfl;have g:(if IntKind.i64.signed=true then(-1:Int)else IntKind.i64.max)= -1:=rfl;rw [g,e];have:(BitVec.ofInt 64 (-1) ^^^BitVec.ofInt 64 a)=BitVec.ofInt 64 (-1-a):=by
  have h1:BitVec.ofInt 64 (-1)=BitVec.allOnes 64:=JG;rw [h1,BitVec.allOnes_xor];apply BitVec.eq_of_toNat_eq;rw [BitVec.toNat_not,BitVec.toNat_ofInt,BitVec.toNat_ofInt];omega
 rw [this,BitVec.toNat_ofInt,X2];omega
theorem c6D{o a b s:Int}(l:o=20\/o=21)(h1:a<=s)(h2:s<=b)(g:inR a)(j:inR b):fG (V9 o a b) (F4 o s):=by
 have m:inR s:=by unfold inR at*;omega
 unfold V9
 rw [if_neg JF];split
 ·obtain rfl:s=a:=JF;exact⟨DW _,DW _⟩
 ·rcases l with rfl|rfl
  ·rw [if_neg JG];unfold F4
   rw [if_pos rfl];split
   ·exact fH _ (bW _)
   ·unfold inR lG at*
    rw [X2,X2,X2];unfold fG;simp only;omega
  ·rw [if_pos rfl];unfold F4
   rw [if_neg JG,if_pos rfl,I4 m,I4 g,I4 j];unfold fG;simp only;omega
theorem Fi{r:Int×Int}{n:Int}(h:fG r n):contains r.1 r.2 n=true:=by
 unfold contains
 unfold fG at h;simp [h.1,h.2]
end Go.M13
end
section
namespace Go.M15
inductive T where
 |mk (v op im iv:Int) (ks:List T)
 deriving Inhabited
def T.v:T->Int| .mk v _ _ _ _=>v
def T.op:T->Int| .mk _ op _ _ _=>op
def T.im:T->Int| .mk _ _ im _ _=>im
def T.iv:T->Int| .mk _ _ _ iv _=>iv
def T.ks:T->List T| .mk _ _ _ _ ks=>ks
mutual
def T.size:T->Int
 | .mk _ _ _ _ ks=>kF 1 ks
def kF(n:Int):List T->Int
 | []=>n
 |t::r=>kF (IntKind.i64.wrap (n+t.size)) r
end
mutual
def T.num:T->Nat
 | .mk _ _ _ _ ks=>jY ks+1
def jY:List T->Nat
 | []=>0
 |t::r=>t.num+jY r
end
theorem Fk: ∀{ks:List T}{t:T},t∈ks->t.num<=jY ks
 |x::r,t,h=>by
  rcases CD.1 h with rfl|h
  ·simp only [jY];omega
  ·have:=Fk h;simp only [jY];omega
theorem Sj{ks:List T}{n:Int} : ∀{i:Nat},i<ks.length->kF n (ks.take (i+1))=IntKind.i64.wrap (kF n (ks.take i)+(ks[i]?.getD default).size):=by
 intro i h
 induction ks generalizing n i with
 |nil=>simp at h
 |cons x r ih=>
  cases i with
  |zero=>simp [kF]
  |succ i=>
   simp only [FM,kF];rw [ih (by simpa using h)];simp
def aU(n:Int):Prop:= -9223372036854775808<=n/\n<=9223372036854775807
instance (n:Int):Decidable (aU n):=inferInstanceAs (Decidable (_/\_))
mutual
def T.ok:T->Prop
 | .mk v op im iv ks=>(aU v/\aU op/\aU im/\aU iv)/\oks ks
def oks:List T->Prop
 | []=>True
 |t::r=>t.ok/\oks r
end
theorem Rl: ∀{ks:List T}{t:T},oks ks->t∈ks->t.ok
 |x::r,t,h,g=>by
  rcases CD.1 g with rfl|g
  ·exact h.1
  ·exact Rl h.2 g
mutual
def T.thin:T->Prop
 | .mk _ _ _ _ ks=>ks.length<=1000000000000000/\nS ks
def nS:List T->Prop
 | []=>True
 |t::r=>t.thin/\nS r
end
theorem Vw(t:T):1<=t.num:=by cases t;simp only [T.num];omega
theorem xQ: ∀ks:List T,ks.length<=jY ks
 | []=>AG _
 |t::r=>by have:=xQ r;have:=Vw t;simp only [jY,AW];omega
mutual
theorem b1O: ∀t:T,t.num<=1000000000000000->t.thin
 | .mk _ _ _ _ ks,h=>by
  simp only [T.num]at h;have:=xQ ks;exact⟨JF,wM ks JF⟩
theorem wM: ∀ks:List T,jY ks<=1000000000000000->nS ks
 | [],_=>trivial
 |t::r,h=>by
  simp only [jY]at h;exact⟨b1O t JF,wM r JF⟩
end
theorem T3: ∀{ks:List T}{t:T},nS ks->t∈ks->t.thin
 |x::r,t,h,g=>by
  rcases CD.1 g with rfl|g
  ·exact h.1
  ·exact T3 h.2 g
theorem Xv{t:T}(h:t.thin):t.ks.length<=1000000000000000/\nS t.ks:=by cases t;exact h
theorem c1L(t:T):t.size=kF 1 t.ks:=by cases t;rfl
theorem Si{ks:List T}{n:Int}{i:Nat}(h:i<ks.length):kF n (ks.take (i+1))=IntKind.i64.wrap (kF n (ks.take i)+kF 1 ks[i].ks):=by
 rw [Sj h,AA h,<-c1L];rfl
def ar(op:Int):Int:=
 if op=1\/op=2\/op=3\/op=26 then 0
 else if op=20\/op=21\/op=24\/op=25 then 1
 else if(4<=op/\op<=19) \/op=23\/op=27\/op=29 then 2
 else if op=22\/op=28 then 3
 else if op=30\/op=31 then-1 else 0
def mC(op:Int):Bool:=decide (1<=op/\op<=31)
def Kp(op:Int):Int:=if op=27\/op=28\/op=29 then 2 else 1
def rY(op k:Int):Int:=if k=0/\(Kp op=2\/op=23\/op=24)then 2 else 1
def Do(op:Int):Bool:=decide (op=1\/op=23\/op=27\/op=28)
end Go.M15
namespace Go.Pv
theorem aD{h:Heap}{id:Nat}{cs:Y14}{K:Y14->Prop}(e:h.get id= .cells cs)(g:K cs):aJ h id K:=by
 unfold aJ;rw [e];exact g
theorem aS{h:Heap}{id m:Nat}{K:Nat->Prop}(e:h.get id= .tip m)(g:K m):cF h id K:=by
 unfold cF;rw [e];exact g
theorem c9K{sz:Nat}{e n:Nat}{cs r:Y14}{K:Y10->Nat->Nat->Y14->Prop}(g:K N e n cs):aZ sz (.vslice N e n sz cs::r) 0 K:=by
 unfold aZ
 simpa using g
theorem aK{h:Heap}{id:Nat}{x:IObj} :(h.set id x).get id=x:=by rw [Heap.get_set,if_pos rfl]
theorem aH{h:Heap}{id j:Nat}{x:IObj}(g:j≠id):(h.set id x).get j=h.get j:=by rw [Heap.get_set,if_neg g]
theorem aT{h:Heap}{x:IObj} :(h.push x).get h.next=x:=by rw [Heap.get_push,if_pos rfl]
theorem aQ{h:Heap}{j:Nat}{x:IObj}(g:j<h.next):(h.push x).get j=h.get j:=by rw [Heap.get_push,if_neg JF]
def HF(id:Nat)(h h':Heap):Prop:=h.next<=h'.next/\∀j,j<h.next->j≠id->h'.get j=h.get j
theorem HF.refl{id:Nat}{h:Heap} :HF id h h:=⟨AG _,fun _ _ _=>rfl⟩
theorem HF.set{id:Nat}{h:Heap}{x:IObj} :HF id h (h.set id x):=⟨AG _,fun j _ g=>aH g⟩
theorem HF.push{id:Nat}{h:Heap}{x:IObj} :HF id h (h.push x):=⟨EE _,fun j g _=>aQ g⟩
end Go.Pv
namespace Go.M15
open Go.Pv
theorem tK(n:Int):aU (IntKind.i64.wrap n):=by
 unfold aU
 rw [DT];omega
def RD(h:Heap)(id:Nat):Prop:=id<h.next/\∃io e lp,∃l:Y12,(∀x∈l,aU x)/\h.get id= .cells [.vslice io e l.length 1 (l.map (IV.int .i64)),.int .i64 lp]
end Go.M15
namespace Go.Pv
open Go.M15
mutual
def cT:T->Y14
 | .mk v op im iv ks=>[.int .i64 v,.int .i64 op,.int .i64 im,.int .i64 iv,.vslice none 0 ks.length 5 (cQ ks)]
def cQ:List T->Y14
 | []=>[]
 |t::r=>cT t++cQ r
end
theorem L4(t:T):(cT t).length=5:=by cases t;rfl
theorem zV: ∀{ks:List T}{i j:Nat}(h:i<ks.length),j<5->(cQ ks)[i*5+j]?=(cT ks[i])[j]?
 |x::r,0,j,_,hj=>by
  rw [cQ,EG,AX,BJ (by rw [L4];exact hj)];rfl
 |x::r,i+1,j,h,hj=>by
  rw [cQ,BA (by rw [L4];omega),L4,show(i+1)*5+j-5=i*5+j by omega];exact zV (ks:=r) (by simpa using h) hj
theorem ldT{ks:List T}{i o:Nat}{K:Int->Int->Int->Int->Y10->Nat->Nat->Y14->Prop}(h:i<ks.length)(z:o=i*5)
  (hk:K ks[i].v ks[i].op ks[i].im ks[i].iv none 0 ks[i].ks.length (cQ ks[i].ks)):
  aG .i64 (cQ ks) o fun a=>aG .i64 (cQ ks) (o+1) fun b=>aG .i64 (cQ ks) (o+1+1) fun c=>aG .i64 (cQ ks) (o+1+1+1) fun d=>aZ 5 (cQ ks) (o+1+1+1+1) fun p q r s=>K a b c d p q r s:=by
 subst z;have e0:=zV (j:=0) h JF;have g:=zV (j:=1) h JF;have l:=zV (j:=2) h JF;have m:=zV (j:=3) h JF;have y:=zV (j:=4) h JF;generalize ks[i]=t at*
 cases t
 unfold aG aZ
 simp only [EP]at e0;simp only [EV,Nat.reduceAdd,e0,g,l,m,y];exact hk
mutual
theorem Jy: ∀t:T,aP (cT t)=true
 | .mk v op im iv ks=>by simp only [cT,aP,bG,mV ks,AL]
theorem mV: ∀ks:List T,aP (cQ ks)=true
 | []=>rfl
 |t::r=>by simp only [cQ,eO,Jy t,mV r,AL]
end
end Go.Pv
end
section
namespace Go.M15
open Go.Pv
def kD(op:Int):Bool:=decide (op=1\/ (4<=op/\op<=24) \/op=27\/op=28\/op=29)
def pR(op:Int):Y12:=
 if op=23\/op=27\/op=29 then [2,1]
 else if op=24 then [2]
 else if op=28 then [2,1,1]
 else if 4<=op/\op<=19 then [1,1]
 else if op=20\/op=21 then [1]
 else if op=22 then [1,1,1]else []
def opS(op:Int):Int:=if kD op=true then Kp op else 0
def B1(op:Int):Int:=if op=2 then 5 else if op=3 then 255 else if op=23\/op=28 then 3 else if op=27 then 1000016 else if op=30 then 7 else if op=31\/op=25 then 15 else-1
def iH(op n:Int):Bool:=decide (op=1\/ (op≠1/\B1 op<0/\n=0) \/ (op≠1/\¬B1 op<0/\0<=n/\n<=B1 op/\(op≠27\/0<n)))
def vIm(op im iv imms:Int):Bool:=decide ((iv≠0/\(op=1\/op=23\/op=27\/op=28)/\im=0/\1<=iv/\iv<=imms) \/ (iv=0/\(op=23\/op=28)/\0<=im/\im<4) \/
 (iv=0/\op=27/\1<=im/\im<=1000016) \/ (iv=0/\op≠23/\op≠28/\op≠27/\(op=1\/im=0)))
theorem a0P{op:Int}(h:op=1\/ (4<=op/\op<=24) \/op=27\/op=28\/op=29):((op=23\/op=28)/\B1 op=3) \/ (op=27/\B1 op=1000016) \/ (op≠23/\op≠28/\op≠27/\B1 op= -1):=by
 unfold B1
 repeat' split
 all_goals omega
def rF(op im iv:Int)(n:Nat)(s imms:Int):Prop:=kD op=true/\n=(pR op).length/\(s=0\/s=opS op)/\vIm op im iv imms=true
instance (op im iv:Int) (n:Nat) (s imms:Int):Decidable (rF op im iv n s imms):=inferInstanceAs (Decidable (_/\_))
def mY(v op im iv:Int)(n m:Nat):Prop:=v<1\/v>m\/op≠0\/im≠0\/iv≠0\/0<n
instance (v op im iv:Int) (n m:Nat):Decidable (mY v op im iv n m):=inferInstanceAs (Decidable (_\/_))
mutual
def kH:T->Int->Int->Y12->Bool×Y12
 | .mk v op im iv ks,s,imms,vs=>
  if v≠0 then
   if mY v op im iv ks.length vs.length then(false,vs)
   else if vs.getD (v-1).toNat 0=0 then(true,vs.set (v-1).toNat s)
   else(decide (s=0\/s=vs.getD (v-1).toNat 0),vs)
  else if rF op im iv ks.length s imms then lY ks (pR op) imms vs else(false,vs)
def lY:List T->Y12->Int->Y12->Bool×Y12
 | [],_,_,vs=>(true,vs)
 |t::r,q,imms,vs=>match kH t (q.headD 0) imms vs with
  | (true,vs')=>lY r q.tail imms vs'
  | (false,vs')=>(false,vs')
end
section
variable {v op im iv s imms:Int} {ks:List T} {vs:Y12}
theorem Kw(j:v≠0)(g:mY v op im iv ks.length vs.length):kH (.mk v op im iv ks) s imms vs=(false,vs):=by
 rw [kH,if_pos j,if_pos g]
theorem b2L(j:v≠0)(g: ¬mY v op im iv ks.length vs.length)(h0:vs.getD (v-1).toNat 0=0):kH (.mk v op im iv ks) s imms vs=(true,vs.set (v-1).toNat s):=by
 rw [kH,if_pos j,if_neg g,if_pos h0]
theorem b2M(j:v≠0)(g: ¬mY v op im iv ks.length vs.length)(h0:vs.getD (v-1).toNat 0≠0):kH (.mk v op im iv ks) s imms vs=(decide (s=0\/s=vs.getD (v-1).toNat 0),vs):=by
 rw [kH,if_pos j,if_neg g,if_neg h0]
theorem Xz(j:v=0)(g: ¬rF op im iv ks.length s imms):kH (.mk v op im iv ks) s imms vs=(false,vs):=by
 rw [kH,if_neg (by simpa using j),if_neg g]
theorem Bl(j:v=0)(g:rF op im iv ks.length s imms):kH (.mk v op im iv ks) s imms vs=lY ks (pR op) imms vs:=by
 rw [kH,if_neg (by simpa using j),if_pos g]
end
theorem a2F{ks:List T}{q:Y12}{imms:Int}{vs:Y12}{i:Nat}(h:ks.length<=i):lY (ks.drop i) q imms vs=(true,vs):=by
 rw [List.drop_eq_nil_of_le h,lY]
theorem Sr{ks:List T}{q:Y12}{imms:Int}{vs:Y12}{i:Nat}(h:i<ks.length)(g:i<q.length):lY (ks.drop i) (q.drop i) imms vs=match kH ks[i] q[i] imms vs with
  | (true,vs')=>lY (ks.drop (i+1)) (q.drop (i+1)) imms vs'
  | (false,vs')=>(false,vs'):=by
 rw [List.drop_eq_getElem_cons h,List.drop_eq_getElem_cons g,lY];rfl
mutual
theorem T6: ∀(t:T)(s imms:Int)(vs:Y12),(kH t s imms vs).2.length=vs.length
 | .mk v op im iv ks,s,imms,vs=>by
  rw [kH];split
  ·split
   ·rfl
   ·split
    ·simp
    ·rfl
  ·split
   ·exact Bm ks (pR op) imms vs
   ·rfl
theorem Bm: ∀(ks:List T)(q:Y12)(imms:Int)(vs:Y12),(lY ks q imms vs).2.length=vs.length
 | [],q,imms,vs=>by rw [lY]
 |t::r,q,imms,vs=>by
  rw [lY];have h:=T6 t (q.headD 0) imms vs;split
  ·rename_i vs' e;rw [e]at h;rw [Bm r q.tail imms vs'];exact h
  ·rename_i vs' e;rw [e]at h;exact h
end
def Kv(t:T)(g imms:Int):Bool:=decide (0<=g/\g<=6/\0<=imms/\imms<=6) && (decide (t.size<=24) && (kH t 0 imms (List.replicate g.toNat 0)).1)
theorem b0B{op:Int}(h:kD op=false):pR op=[]/\opS op=0:=by
 refine⟨?_,by unfold opS;rw [if_neg (by rw [h];exact EI)]⟩;unfold kD at h;rw [decide_eq_false_iff_not]at h;unfold pR
 repeat' split
 all_goals first|rfl| (exfalso;omega)
theorem Fm{op:Int}(h:kD op=true):((pR op).length:Int)=ar op:=by
 unfold kD at h;rw [decide_eq_true_eq]at h;unfold pR ar
 repeat' split
 all_goals first|rfl| (exfalso;omega)
theorem d0B{op:Int}(h:kD op=true){i:Nat}(g:i< (pR op).length):rY op i=(pR op)[i]:=by
 have l:=Fm h;have h3:(pR op).length<=3:=by unfold pR; (repeat' split)<;>simp
 unfold kD at h;rw [decide_eq_true_eq]at h;have j:i=0\/i=1\/i=2:=JF
 revert g
 unfold pR rY Kp
 rcases j with rfl|rfl|rfl
 all_goals
  repeat' split
  all_goals intro g
  all_goals first|rfl| (exfalso;omega)| (simp at g)| (exfalso;simp at g;omega)
end Go.M15
namespace Go.Pv
theorem mW(n:Nat):dY n [.int .i64 0]=(List.replicate n (0:Int)).map (IV.int .i64):=by
 induction n with
 |zero=>rfl
 |succ n ih=>simp [dY,ih,GW]
end Go.Pv
end
section
namespace Go.M15
open Go.Pv
theorem a0W{ks:List T}{i:Nat}(h:i<ks.length):jY (ks.drop i)=ks[i].num+jY (ks.drop (i+1)):=by
 rw [List.drop_eq_getElem_cons h,jY]
end Go.M15
namespace Go.Pv
open Go.M15
theorem In{sz:Nat}{cs:Y14}{A:Prop}{K:Nat->Nat->Nat->Y14->Prop}(e:cs[i]?=some .nilslice)(g:A):vE sz cs i A K:=by
 unfold vE;rw [e];exact g
theorem Ff{sz:Nat}{cs:Y14}{A:Prop}{K:Nat->Nat->Nat->Y14->Prop}{i:Nat}{a n:Nat}{c:Y14}(e:cs[j]?=some (.vslice (some i) a n sz c))(g:K i a n c):vE sz cs j A K:=by
 unfold vE;rw [e];simpa using g
theorem P6{sz:Nat}{cs:Y14}{A:Prop}{K:Nat->Nat->Nat->Prop}{i a n:Nat}(e:cs[j]?=some (.hslice i a n sz))(g:K i a n):vD sz cs j A K:=by
 unfold vD;rw [e];simpa using g
theorem bB{k:IntKind}{cs:Y14}{K:Int->Prop}{n:Int}(e:cs[i]?=some (.int k n))(g:K n):aG k cs i K:=by
 unfold aG;rw [e];simpa using g
end Go.Pv
namespace Go.M15
open Go.Pv
structure Nd where
 op:Int
 im:Int
 ks:Y12
 deriving DecidableEq,Inhabited
abbrev _root_.Y15:=List Nd
def lV(n:Nd):Prop:=aU n.op/\aU n.im/\∀k∈n.ks,aU k
def b8(n:Int):Y12:=[IntKind.u8.wrap (n.fdiv 1),IntKind.u8.wrap (n.fdiv 256),IntKind.u8.wrap (n.fdiv 65536),IntKind.u8.wrap (n.fdiv 16777216),IntKind.u8.wrap (n.fdiv 4294967296),
 IntKind.u8.wrap (n.fdiv 1099511627776),IntKind.u8.wrap (n.fdiv 281474976710656),IntKind.u8.wrap (n.fdiv 72057594037927936)]
def u64(n:Int):Int:=IntKind.u64.wrap n
def P3(n:Nd):Y12:=b8 (u64 n.op)++b8 (u64 n.im)++n.ks.flatMap fun k=>b8 (u64 k)
def oY(n:Nd):Y11:=(P3 n).map fun x=>UInt8.ofNat x.toNat
theorem u8w(n:Int):IntKind.u8.wrap n=n%256:=by
 simp [IntKind.wrap,IntKind.signed,IntKind.bits]
theorem uQ(n:Int):IntKind.u64.wrap n=n%18446744073709551616:=by
 simp [IntKind.wrap,IntKind.signed,IntKind.bits]
theorem a3N(n:Int): ∀x∈b8 n,0<=x/\x<256:=by
 intro x g;unfold b8 at g;simp only [u8w,CD,DU,or_false]at g;omega
theorem Nn{n m:Int}(R:0<=n/\n<18446744073709551616)(O:0<=m/\m<18446744073709551616)(h:b8 n=b8 m):n=m:=by
 unfold b8 at h;simp only [u8w,BI,and_true]at h;obtain⟨h0,h1,h2,h3,h4,g,j,l⟩:=h;simp only [CA _ (show(0:Int)<=1 by decide),CA _ (show(0:Int)<=256 by decide),CA _ (show(0:Int)<=65536 by decide),CA _ (show(0:Int)<=16777216 by decide),
  CA _ (show(0:Int)<=4294967296 by decide),CA _ (show(0:Int)<=1099511627776 by decide),CA _ (show(0:Int)<=281474976710656 by decide),CA _ (show(0:Int)<=72057594037927936 by decide),Int.ediv_one]at h0 h1 h2 h3 h4 g j l
 have e: ∀x:Int,x/65536=x/256/256/\x/16777216=x/65536/256/\x/4294967296=x/16777216/256/\x/1099511627776=x/4294967296/256/\x/281474976710656=x/1099511627776/256/\x/72057594037927936=x/281474976710656/256:=fun x=>by
  refine⟨?_,?_,?_,?_,?_,?_⟩<;>omega
 obtain⟨p,q,r,y,z,A⟩:=e n;obtain⟨c1,c2,D,G,K,L⟩:=e m;have k7:n/72057594037927936=m/72057594037927936:=JF;have k6:n/281474976710656=m/281474976710656:=JF;have k5:n/1099511627776=m/1099511627776:=JF;have k4:n/4294967296=m/4294967296:=JF;have k3:n/16777216=m/16777216:=JF;have k2:n/65536=m/65536:=JF;have k1:n/256=m/256:=JF;omega
theorem Bk(n:Int):0<=u64 n/\u64 n<18446744073709551616:=by
 unfold u64
 rw [uQ];omega
theorem Fu{n m:Int}(j:aU n)(g:aU m)(h:u64 n=u64 m):n=m:=by
 unfold u64 at h;rw [uQ,uQ]at h;unfold aU at j g;omega
theorem J6(n:Int):(b8 n).length=8:=rfl
theorem Hu: ∀{a b:Y12},(∀k∈a,aU k)->(∀k∈b,aU k)->a.flatMap (fun k=>b8 (u64 k))=b.flatMap (fun k=>b8 (u64 k))->a=b
 | [],[],_,_,_=>rfl
 | [],y::b,_,_,h=>by simp [b8]at h
 |x::a,[],_,_,h=>by simp [b8]at h
 |x::a,y::b,ha,hb,h=>by
  rw [BD,BD]at h;obtain⟨h1,h2⟩:=List.append_inj h (by rw [J6,J6]);rw [Fu (ha x AY) (hb y AY) (Nn (Bk _) (Bk _) h1),Hu (fun k g=>ha k (BK _ g)) (fun k g=>hb k (BK _ g)) h2]
theorem a7Y{a b:Nd}(g:lV a)(j:lV b)(h:P3 a=P3 b):a=b:=by
 unfold P3 at h;obtain⟨h1,h2⟩:=List.append_inj h (by simp [J6]);obtain⟨h3,h4⟩:=List.append_inj h1 (by rw [J6,J6]);have l:=Fu g.1 j.1 (Nn (Bk _) (Bk _) h3);have m:=Fu g.2.1 j.2.1 (Nn (Bk _) (Bk _) h4);have p:=Hu g.2.2 j.2.2 h2
 cases a;cases b
 simp_all
theorem Vl(n:Nd): ∀x∈P3 n,0<=x/\x<256:=by
 intro x g;unfold P3 at g;rcases BU.1 g with g|g
 ·rcases BU.1 g with g|g
  ·exact a3N _ x g
  ·exact a3N _ x g
 ·obtain⟨k,_,j⟩:=List.mem_flatMap.1 g;exact a3N _ x j
theorem b1W: ∀{a b:Y12},(∀x∈a,0<=x/\x<256)->(∀x∈b,0<=x/\x<256)->a.map (fun x=>UInt8.ofNat x.toNat)=b.map (fun x=>UInt8.ofNat x.toNat)->a=b
 | [],[],_,_,_=>rfl
 | [],_::_,_,_,h=>by simp at h
 |_::_,[],_,_,h=>by simp at h
 |x::a,y::b,ha,hb,h=>by
  simp only [BP,BI]at h;obtain⟨h1,h2⟩:=h;have j:=ha x AY;have l:=hb y AY;have e:=congrArg UInt8.toNat h1;rw [UInt8.toNat_ofNat_of_lt' (by show x.toNat<256;omega),UInt8.toNat_ofNat_of_lt' (by show y.toNat<256;omega)]at e;rw [show x=y by omega,b1W (fun k g=>ha k (BK _ g)) (fun k g=>hb k (BK _ g)) h2]
theorem a7X{a b:Nd}(g:lV a)(j:lV b):(oY a==oY b)=decide (a=b):=by
 by_cases e:a=b
 ·subst e;simp
 ·have:oY a≠oY b:=fun h=>e (a7Y g j (b1W (Vl a) (Vl b) h))
  simp [e,this]
theorem D7: ∀l:Y12,jH (l.map (IV.int .u8))=some (l.map fun x=>UInt8.ofNat x.toNat)
 | []=>rfl
 |x::r=>by simp [jH,D7 r]
def oV(n:Nd):Y15->Nat->Y10
 | [],_=>none
 |x::r,i=>if n=x then some i else oV n r (i+1)
def sH(k:Y11):List (Y11×Int)->Option Int
 | []=>none
 | (x,v)::r=>if k==x then some v else sH k r
def Nv(g:List (Y11×Int)):List (IV×IV):=g.map fun p=>(.str p.1,.int .i64 p.2)
theorem iD(k:Y11): ∀es,fE .string (.str k) (Nv es)=some ((sH k es).map (IV.int .i64))
 | []=>rfl
 | (x,v)::r=>by
  have g:=iD k r;unfold Nv at g⊢;simp only [BP,fE,dH,sH]
  cases h:(k==x)
  ·simpa using g
  ·simp
theorem wO(k:Y11)(v:Int): ∀es,sH k es=none->nT .string (.str k) (.int .i64 v) (Nv es)=some (Nv (es++ [(k,v)]))
 | [],_=>rfl
 | (x,w)::r,h=>by
  unfold sH at h;split at h
  ·cases h
  ·rename_i g;have j:=wO k v r h;unfold Nv at j⊢;simp only [BP,nT,dH,CO];rw [FH]at g;rw [g];simp only [j,DE]
def ixf:Nat->List (Y11×Int)->Y15->List (Y11×Int)
 |_,acc,[]=>acc
 |i,acc,n::r=>ixf (i+1) (if(sH (oY n) acc).isSome then acc else acc++ [(oY n,(i:Int))]) r
def Vd(l:Y15):List (Y11×Int):=ixf 0 [] l
theorem N8(n:Nd): ∀(l:Y15)(i:Nat)(g:List (Y11×Int)),ixf i g (l++ [n])=if(sH (oY n) (ixf i g l)).isSome then ixf i g l else ixf i g l++ [(oY n,((i+l.length:Nat):Int))]
 | [],i,g=>by
  simp only [DX,ixf,BW,EP]
  try rfl
 |x::l,i,g=>by
  simp only [CO,ixf,AW];rw [N8 n l];rw [show i+1+l.length=i+(l.length+1) by omega]
  try rfl
theorem P8(k:Y11): ∀(a b:List (Y11×Int)),sH k (a++b)=(sH k a).or (sH k b)
 | [],b=>rfl
 | (x,v)::a,b=>by
  simp only [CO,sH];split
  ·rfl
  ·exact P8 k a b
theorem Is{n:Nd}(p:lV n): ∀(l:Y15)(i:Nat)(g:List (Y11×Int)),(∀x∈l,lV x)->sH (oY n) (ixf i g l)=(sH (oY n) g).or ((oV n l i).map fun j=>(j:Int))
 | [],i,g,_=>by simp [ixf,oV]
 |x::l,i,g,h=>by
  simp only [ixf,oV];have q:=h x AY;rw [Is p l (i+1) _ (fun y r=>h y (BK _ r))];have m:=a7X p q
  by_cases e:n=x
  ·subst e;rw [if_pos rfl]
   cases hl:sH (oY n) g with
   |some v=>simp [hl]
   |none=>simp [hl,P8,sH]
  ·rw [if_neg e];rw [decide_eq_false e]at m
   cases hl:sH (oY x) g with
   |some v=>simp
   |none=>
    simp only [CV,AU,if_false];rw [P8];simp [sH,m]
theorem lT{n:Nd}(g:lV n){l:Y15}(h: ∀x∈l,lV x):sH (oY n) (Vd l)=(oV n l 0).map fun j=>(j:Int):=by
 unfold Vd
 rw [Is g l 0 [] h];rfl
def kQ(l:Y15)(n:Nd):Y15×Int:=match oV n l 0 with
 |some i=>(l,i)
 |none=>(l++ [n],l.length)
theorem Ve{n:Nd}(g:lV n){l:Y15}(h: ∀x∈l,lV x)(e:oV n l 0=none):Vd (l++ [n])=Vd l++ [(oY n,(l.length:Int))]:=by
 have h1:=lT g h;rw [e]at h1;unfold Vd at h1⊢;rw [N8,h1];simp
theorem Uv{n:Nd} : ∀{l:Y15}{i j:Nat},oV n l i=some j->i<=j/\j<i+l.length
 | [],i,j,h=>by cases h
 |x::l,i,j,h=>by
  unfold oV at h;split at h
  ·cases h
   simp only [AW];omega
  ·have:=Uv h;simp only [AW];omega
mutual
def cB:T->Y12->Y12->Y15->Y15×Int
 | .mk v op im iv ks,vars,imms,l=>
  if 0<v then(l,vars.getD (v-1).toNat 0)
  else kQ (cH ks vars imms l).1 ⟨op,if 0<iv then imms.getD (iv-1).toNat 0 else im,(cH ks vars imms l).2⟩
def cH:List T->Y12->Y12->Y15->Y15×Y12
 | [],_,_,l=>(l,[])
 |t::r,vars,imms,l=>((cH r vars imms (cB t vars imms l).1).1,(cB t vars imms l).2::(cH r vars imms (cB t vars imms l).1).2)
end
mutual
def T.wi:T->Int->Int->Prop
 | .mk v _ _ iv ks,nv,ni=>(0<=v/\v<=nv)/\(0<v\/ ((0<=iv/\iv<=ni)/\wis ks nv ni))
def wis:List T->Int->Int->Prop
 | [],_,_=>True
 |t::r,nv,ni=>t.wi nv ni/\wis r nv ni
end
theorem b2O: ∀{ks:List T}{t:T}{l j:Int},wis ks l j->t∈ks->t.wi l j
 |x::r,t,l,j,h,g=>by
  rcases CD.1 g with rfl|g
  ·exact h.1
  ·exact b2O h.2 g
mutual
theorem Ya: ∀(t:T)(s imms:Int)(vs:Y12),0<=imms->(kH t s imms vs).1=true->t.wi vs.length imms
 | .mk v op im iv ks,s,imms,vs,h0,h=>by
  by_cases hv:v=0
  ·by_cases hn:rF op im iv ks.length s imms
   ·rw [Bl hv hn]at h;refine⟨JF,.inr ⟨?_,Kx ks (pR op) imms vs h0 h⟩⟩;have:=hn.2.2.2;simp only [vIm,decide_eq_true_eq]at this;omega
   ·rw [Xz hv hn]at h
    cases h
  ·by_cases hb:mY v op im iv ks.length vs.length
   ·rw [Kw hv hb]at h
    cases h
   ·unfold mY at hb;exact⟨JF,.inl JF⟩
theorem Kx: ∀(ks:List T)(q:Y12)(imms:Int)(vs:Y12),0<=imms->(lY ks q imms vs).1=true->wis ks vs.length imms
 | [],_,_,_,_,_=>trivial
 |t::r,q,imms,vs,h0,h=>by
  rw [lY]at h;have hlen:=T6 t (q.headD 0) imms vs;have ht:=Ya t (q.headD 0) imms vs h0;split at h
  ·rename_i vs' e;rw [e]at ht hlen;have hlen:vs'.length=vs.length:=hlen;have:=Kx r q.tail imms vs' h0 h;rw [hlen]at this;exact⟨ht rfl,this⟩
  ·cases h
end
theorem Xy{t:T}(h:Kv t x y=true):t.wi x y/\t.size<=24/\0<=x/\x<=6/\0<=y/\y<=6:=by
 unfold Kv at h;simp only [AD,decide_eq_true_eq]at h;have:=Ya t 0 y _ h.1.2.2.1 h.2.2;rw [EJ,GX h.1.1]at this;exact⟨this,h.2.1,h.1⟩
theorem Ka(l:Y15)(n:Nd):l.length<=(kQ l n).1.length/\(kQ l n).1.length<=l.length+1/\0<=(kQ l n).2/\(kQ l n).2<=l.length:=by
 unfold kQ
 split
 ·rename_i i h;have:=Uv h;simp only;omega
 ·simp
theorem c0J{l:Y15}{n:Nd}(j: ∀x∈l,lV x)(m:lV n): ∀x∈ (kQ l n).1,lV x:=by
 unfold kQ
 split
 ·exact j
 ·intro x g;rcases BU.1 g with g|g
  ·exact j x g
  ·rw [BN.1 g];exact m
theorem Pj{l:Y12}{i:Nat}(h: ∀x∈l,aU x):aU (l.getD i 0):=by
 rw [AC];rcases BB i l.length with q|q
 ·rw [AA q];exact h _ (AH q)
 ·rw [BH q];show aU 0;unfold aU
  omega
mutual
theorem zZ: ∀(t:T)(vars imms:Y12)(l:Y15),l.length<=(cB t vars imms l).1.length/\(cB t vars imms l).1.length<=l.length+t.num
 | .mk v op im iv ks,vars,imms,l=>by
  rw [cB];split
  ·simp only [T.num];omega
  ·have h1:=vW ks vars imms l;have h2:=Ka (cH ks vars imms l).1 ⟨op,if 0<iv then imms.getD (iv-1).toNat 0 else im,(cH ks vars imms l).2⟩;simp only [T.num];omega
theorem vW: ∀(ks:List T)(vars imms:Y12)(l:Y15),l.length<=(cH ks vars imms l).1.length/\(cH ks vars imms l).1.length<=l.length+jY ks/\(cH ks vars imms l).2.length=ks.length
 | [],vars,imms,l=>by simp [cH,jY]
 |t::r,vars,imms,l=>by
  have h1:=zZ t vars imms l;have h2:=vW r vars imms (cB t vars imms l).1;simp only [cH,jY,AW];omega
end
mutual
theorem N5: ∀(t:T)(vars imms:Y12)(l:Y15),t.ok->(∀x∈vars,aU x)->(∀x∈imms,aU x)->(∀x∈l,lV x)->l.length+t.num<=1000000000->(∀x∈ (cB t vars imms l).1,lV x)/\aU (cB t vars imms l).2
 | .mk v op im iv ks,vars,imms,l,ht,hv,hi,hl,hb=>by
  rw [cB];split
  ·exact⟨hl,Pj hv⟩
  ·simp only [T.num]at hb;have h1:=Z7 ks vars imms l ht.2 hv hi hl JF;have h3:=vW ks vars imms l;have hn:lV ⟨op,if 0<iv then imms.getD (iv-1).toNat 0 else im,(cH ks vars imms l).2⟩:=⟨ht.1.2.1,by
    show aU (if 0<iv then imms.getD (iv-1).toNat 0 else im);split
    ·exact Pj hi
    ·exact ht.1.2.2.1,h1.2⟩
   have h2:=Ka (cH ks vars imms l).1 ⟨op,if 0<iv then imms.getD (iv-1).toNat 0 else im,(cH ks vars imms l).2⟩;exact⟨c0J h1.1 hn,by unfold aU;omega⟩
theorem Z7: ∀(ks:List T)(vars imms:Y12)(l:Y15),oks ks->(∀x∈vars,aU x)->(∀x∈imms,aU x)->(∀x∈l,lV x)->l.length+jY ks<=1000000000->(∀x∈ (cH ks vars imms l).1,lV x)/\∀x∈ (cH ks vars imms l).2,aU x
 | [],vars,imms,l,ht,hv,hi,hl,hb=>⟨hl,by simp [cH]⟩
 |t::r,vars,imms,l,ht,hv,hi,hl,hb=>by
  simp only [jY]at hb;have h1:=N5 t vars imms l ht.1 hv hi hl JF;have h3:=zZ t vars imms l;have h2:=Z7 r vars imms (cB t vars imms l).1 ht.2 hv hi h1.1 JF;simp only [cH];refine⟨h2.1,fun x hx=>?_⟩;rcases CD.1 hx with rfl|hx
  ·exact h1.2
  ·exact h2.2 x hx
end
theorem Ie{ks:List T}{i:Nat}{g imms:Y12}{l:Y15}(h:i<ks.length):
  cH (ks.drop i) g imms l=((cH (ks.drop (i+1)) g imms (cB ks[i] g imms l).1).1,(cB ks[i] g imms l).2::(cH (ks.drop (i+1)) g imms (cB ks[i] g imms l).1).2):=by
 rw [List.drop_eq_getElem_cons h,cH]
theorem Pn{ks:List T}{i:Nat}{g imms:Y12}{l:Y15}(h:ks.length<=i):cH (ks.drop i) g imms l=(l,[]):=by
 rw [List.drop_eq_nil_of_le h,cH]
def mH(l:Y15)(t:T)(g imms:Y12):Y15×Int:=
 if Kv t g.length imms.length=true/\g.all (fun i=>decide (0<=i) &&decide (i<l.length))=true then cB t g imms l else(l,-1)
end Go.M15
namespace Go.Pv
open Go.M15
def cN(n:Nd):Y14:=[.int .i64 n.op,.int .i64 n.im,.vslice none 0 n.ks.length 1 (n.ks.map (IV.int .i64))]
theorem bR: ∀{l:Y15},aP (l.flatMap cN)=true
 | []=>rfl
 |x::r=>by
  rw [BD,eO,bR,AL];simp only [cN,aP,bG,bC,AL]
theorem uZ{l:Y15}{i j:Nat}(h:i<l.length)(g:j<3):(l.flatMap cN)[i*3+j]?=(cN l[i])[j]?:=by
 induction l generalizing i with
 |nil=>simp at h
 |cons x r ih=>
  cases i with
  |zero=>
   rw [BD,EG,AX,BJ (by exact g)];rfl
  |succ i=>
   rw [BD,BA (by show 3<=_;omega),show(i+1)*3+j- (cN x).length=i*3+j by show(i+1)*3+j-3=_;omega];exact ih (by simpa using h)
theorem pK{l:Y15}{i o:Nat}{K:Int->Int->Y10->Nat->Nat->Y14->Prop}(h:i<l.length)(z:o=i*3)(y:K l[i].op l[i].im none 0 l[i].ks.length (l[i].ks.map (IV.int .i64))):
  aG .i64 (l.flatMap cN) o fun a=>aG .i64 (l.flatMap cN) (o+1) fun b=>aZ 1 (l.flatMap cN) (o+1+1) fun p q r s=>K a b p q r s:=by
 subst z;have e0:=uZ (j:=0) h JF;have g:=uZ (j:=1) h JF;have m:=uZ (j:=2) h JF;unfold aG aZ
 simp only [EP]at e0;simp only [EV,Nat.reduceAdd,e0,g,m];exact y
end Go.Pv
namespace Go.Pv
theorem iP{cs:Y14}{g id:Nat}{K:Nat->Prop}(e:cs[g]?=some (.map id))(j:K id):oZ cs g K:=by
 unfold oZ;rw [e];exact j
theorem bM{sz:Nat}{cs:Y14}{K:Y10->Nat->Nat->Y14->Prop}{i:Y10}{a n:Nat}{c:Y14}(e:cs[j]?=some (.vslice i a n sz c))(g:K i a n c):aZ sz cs j K:=by
 unfold aZ;rw [e];simpa using g
theorem Zk{cs:Y14}{b:Y11}{K:Y11->Prop}(e:jH cs=some b)(g:K b):a3T cs K:=by
 unfold a3T;rw [e];exact g
theorem fU{h:Heap}{id:Nat}{d:TypeDesc}{g v:IV}{j:List (IV×IV)}{K:Y14->Prop}{A:Prop}(e:h.get id= .map j)(f:fE d g j=some (some v))(l:K [v]):gC h id d g K A:=by
 unfold gC;rw [e];simp only [f];exact l
theorem fT{h:Heap}{id:Nat}{d:TypeDesc}{g:List (IV×IV)}{K:Y14->Prop}{A:Prop}(e:h.get id= .map g)(f:fE d p g=some none)(j:A):gC h id d p K A:=by
 unfold gC;rw [e];simp only [f];exact j
theorem eX{h:Heap}{id:Nat}{d:TypeDesc}{g v:IV}{j es':List (IV×IV)}{K:List (IV×IV)->Prop}(e:h.get id= .map j)(f:nT d g v j=some es')(l:K es'):lU h id d g v K:=by
 unfold lU;rw [e];simp only [f];exact l
end Go.Pv
namespace Go.M15
open Go.Pv
theorem a0G{op im:Int}{ks:Y12}{k:Nat}(h:k<ks.length):P3 ⟨op,im,ks.take (k+1)⟩=P3 ⟨op,im,ks.take k⟩++b8 (u64 ks[k]):=by
 unfold P3
 simp only [CI,List.append_cancel_left_eq];rw [AZ h,CG];simp
def N7(n:Nd)(cs:Y14):Prop:=cs=(P3 n).map (IV.int .u8)
def oX(n:Nd)(s:Y11):Prop:=s=oY n
def IS(h:Heap)(id m j:Nat)(g imms:Y12)(l:Y15):Prop:=(id<h.next/\m<h.next/\j<h.next)/\
 h.get id= .cells [.vslice (some j) (l.length*3) l.length 3 (l.flatMap cN),.map m,.vslice none 0 g.length 1 (g.map (IV.int .i64)),.vslice none 0 imms.length 1 (imms.map (IV.int .i64))]/\
 h.get j= .tip (l.length*3)/\h.get m= .map (Nv (Vd l))
def sK(id m g:Nat)(h h2:Heap):Prop:=h.next<=h2.next/\∀j,j<h.next->j≠id->j≠m->j≠g->h2.get j=h.get j
theorem sK.refl{id m g:Nat}{h:Heap} :sK id m g h h:=⟨AG _,fun _ _ _ _ _=>rfl⟩
theorem sK.trans{id m g:Nat}{a b c:Heap}(x:sK id m g a b)(y:sK id m g b c):sK id m g a c:=
 ⟨CW x.1 y.1,fun j h1 h2 h3 h4=>by rw [y.2 j (BS h1 x.1) h2 h3 h4,x.2 j h1 h2 h3 h4]⟩
theorem IS.ne{h:Heap}{id m j:Nat}{g imms:Y12}{l:Y15}(s:IS h id m j g imms l):id≠m/\id≠j/\m≠j:=by
 obtain⟨_,h1,h2,h3⟩:=s;refine⟨fun e=>?_,fun e=>?_,fun e=>?_⟩
 ·subst e;rw [h1]at h3;cases h3
 ·subst e;rw [h1]at h2;cases h2
 ·subst e;rw [h2]at h3;cases h3
theorem sK.push{id m l:Nat}{h g:Heap}{x:IObj}(f:sK id m l h g):sK id m l h (g.push x):=
 ⟨FY f.1,fun j h1 h2 h3 h4=>by rw [aQ (BS h1 f.1),f.2 j h1 h2 h3 h4]⟩
theorem sK.set{id m l i:Nat}{h g:Heap}{x:IObj}(f:sK id m l h g)(p:h.next<=i):sK id m l h (g.set i x):=
 ⟨f.1,fun j h1 h2 h3 h4=>by rw [aH JF,f.2 j h1 h2 h3 h4]⟩
theorem IS.push{h:Heap}{id m r:Nat}{g imms:Y12}{l:Y15}(s:IS h id m r g imms l){x:IObj} :IS (h.push x) id m r g imms l:=by
 obtain⟨⟨j,p,q⟩,h1,h2,h3⟩:=s;exact⟨⟨BY j,BY p,BY q⟩,by rw [aQ j,h1],by rw [aQ q,h2],by rw [aQ p,h3]⟩
theorem IS.set{h:Heap}{id m j i:Nat}{g imms:Y12}{l:Y15}(s:IS h id m j g imms l){x:IObj}(h4:i≠id)(p:i≠m)(q:i≠j):IS (h.set i x) id m j g imms l:=by
 obtain⟨b,h1,h2,h3⟩:=s;exact⟨b,by rw [aH h4.symm,h1],by rw [aH q.symm,h2],by rw [aH p.symm,h3]⟩
def IZ(h:Heap)(id m:Nat)(g imms:Y12)(l:Y15):Prop:=(l=[]/\(id<h.next/\m<h.next/\id≠m)/\h.get id= .cells [.nilslice,.map m,.vslice none 0 g.length 1 (g.map (IV.int .i64)),.vslice none 0 imms.length 1 (imms.map (IV.int .i64))]/\h.get m= .map (Nv [])) \/
 ∃iL,IS h id m iL g imms l
def IP(h:Heap)(id m:Nat)(g imms:Y12)(l:Y15)(n:Nd):Prop:= ∃iL,(id<h.next/\m<h.next/\iL<h.next)/\
 h.get id= .cells [.vslice (some iL) ((l++ [n]).length*3) (l++ [n]).length 3 ((l++ [n]).flatMap cN),.map m,.vslice none 0 g.length 1 (g.map (IV.int .i64)),.vslice none 0 imms.length 1 (imms.map (IV.int .i64))]/\
 h.get iL= .tip ((l++ [n]).length*3)/\h.get m= .map (Nv (Vd l))
theorem IZ.push{h:Heap}{id m:Nat}{g imms:Y12}{l:Y15}(s:IZ h id m g imms l){x:IObj} :IZ (h.push x) id m g imms l:=by
 rcases s with⟨h0,⟨j,p,q⟩,h1,h2⟩| ⟨r,s⟩
 ·exact .inl ⟨h0,⟨BY j,BY p,q⟩,by rw [aQ j,h1],by rw [aQ p,h2]⟩
 ·exact .inr ⟨r,s.push⟩
theorem IZ.toP{g:Heap}{id m:Nat}{j imms:Y12}(p:id<g.next)(q:m<g.next)(l:id≠m)(h1:g.get id= .cells [.nilslice,.map m,.vslice none 0 j.length 1 (j.map (IV.int .i64)),.vslice none 0 imms.length 1 (imms.map (IV.int .i64))])(h2:g.get m= .map (Nv []))(n:Nd):
  IP ((g.push (.tip 3)).set id (.cells (.vslice (some g.next) 3 1 3 (cN n):: [.map m,.vslice none 0 j.length 1 (j.map (IV.int .i64)),.vslice none 0 imms.length 1 (imms.map (IV.int .i64))]))) id m j imms [] n:=by
 refine⟨g.next,⟨BY p,BY q,AV _⟩,?_,?_,?_⟩
 ·rw [aK];simp
 ·rw [aH (FU p),aT];rfl
 ·rw [aH l.symm,aQ q,h2];rfl
theorem IS.toP{g:Heap}{id m p:Nat}{j imms:Y12}{l:Y15}(s:IS g id m p j imms l)(n:Nd):
  IP ((g.set p (.tip (l.length*3+3))).set id (.cells (.vslice (some p) (l.length*3+3) (l.length+1) 3 (l.flatMap cN++cN n):: [.map m,.vslice none 0 j.length 1 (j.map (IV.int .i64)),.vslice none 0 imms.length 1 (imms.map (IV.int .i64))]))) id m j imms l n:=by
 obtain⟨q,r,y⟩:=s.ne;obtain⟨b,h1,h2,h3⟩:=s;refine⟨p,b,?_,?_,?_⟩
 ·rw [aK];simp [DN]
 ·rw [aH r.symm,aK];simp [DN]
 ·rw [aH q.symm,aH y,h3]
theorem IP.found{h:Heap}{id m:Nat}{g imms:Y12}{l:Y15}{n:Nd}(s:IP h id m g imms l n)(q:lV n)(p: ∀x∈l,lV x){i:Nat}(e:oV n l 0=some i):IZ h id m g imms (l++ [n]):=by
 obtain⟨r,b,h1,h2,h3⟩:=s;refine .inr ⟨r,b,h1,h2,?_⟩;have j:=lT q p;rw [e]at j;unfold Vd at j h3⊢;rw [N8,j];exact h3
theorem IP.new{h:Heap}{id m:Nat}{g imms:Y12}{l:Y15}{n:Nd}(s:IP h id m g imms l n)(p:lV n)(j: ∀x∈l,lV x)(e:oV n l 0=none):IZ (h.set m (.map (Nv (Vd l++ [(oY n,(l.length:Int))])))) id m g imms (l++ [n]):=by
 obtain⟨r,b,h1,h2,h3⟩:=s;refine .inr ⟨r,b,?_,?_,?_⟩
 ·rw [aH (fun q=>by subst q;rw [h1]at h3;cases h3),h1]
 ·rw [aH (fun q=>by subst q;rw [h2]at h3;cases h3),h2]
 ·rw [aK,Ve p j e]
def oF(iv im:Int)(imms:Y12):Int:=if 0<iv then imms.getD (iv-1).toNat 0 else im
theorem qY{v op im iv:Int}{ks:List T}{g imms:Y12}{l:Y15}(j: ¬0<v):cB (.mk v op im iv ks) g imms l=kQ (cH ks g imms l).1 ⟨op,oF iv im imms,(cH ks g imms l).2⟩:=by
 rw [cB,if_neg j];rfl
theorem A0{v op im iv:Int}{ks:List T}{g imms:Y12}{l:Y15}(j:0<v):cB (.mk v op im iv ks) g imms l=(l,g.getD (v-1).toNat 0):=by
 rw [cB,if_pos j]
def IK(ks:List T)(g imms:Y12)(l:Y15)(i:Nat)(j:Y15)(kids:Y12):Prop:=
 (cH ks g imms l=((cH (ks.drop i) g imms j).1,kids++(cH (ks.drop i) g imms j).2)/\i<=ks.length/\kids.length=i)/\
 ((∀x∈j,lV x)/\(∀x∈kids,aU x)/\j.length+jY (ks.drop i)+1<=1000000000)
theorem IK.step{ks:List T}{g imms:Y12}{l m:Y15}{i:Nat}{kids:Y12}(h:IK ks g imms l i m kids)(j:i<ks.length)(q:oks ks)(D: ∀x∈g,aU x)(A: ∀x∈imms,aU x):
  IK ks g imms l (i+1) (cB ks[i] g imms m).1 (kids++ [(cB ks[i] g imms m).2])/\m.length+ks[i].num<=1000000000:=by
 obtain⟨⟨h1,h2,h3⟩,h4,y,z⟩:=h;rw [a0W j]at z;rw [Ie j]at h1;have G:=zZ ks[i] g imms m;have r:=N5 ks[i] g imms m (Rl q (AH j)) D A h4 JF;refine⟨⟨⟨by rw [h1];simp,j,by simp [h3]⟩,r.1,fun x p=>?_,JF⟩,JF⟩;rcases BU.1 p with p|p
 ·exact y x p
 ·rw [BN.1 p];exact r.2
theorem IK.last{ks:List T}{g imms:Y12}{l m:Y15}{i:Nat}{kids:Y12}(h:IK ks g imms l i m kids)(j:ks.length<=i):cH ks g imms l=(m,kids):=by
 have:=h.1.1;rw [Pn j]at this;simpa using this
theorem IS.app{h:Heap}{id m j:Nat}{g imms:Y12}{l:Y15}(s:IS h id m j g imms l){n:Nd}(z:lV n)(y: ∀x∈l,lV x)(e:oV n l 0=none)(r:Y14)(p:h.get id= .cells r):
  IS (((h.set m (.map (Nv (Vd l++ [(oY n,(l.length:Int))])))).set j (.tip (l.length*3+3))).set id (.cells (.vslice (some j) (l.length*3+3) (l.length+1) 3 (l.flatMap cN++cN n)::r.drop 1))) id m j g imms (l++ [n]):=by
 obtain⟨A,D,G⟩:=s.ne;obtain⟨q,h1,h2,h3⟩:=s;rw [h1]at p
 cases p
 refine⟨q,?_,?_,?_⟩
 ·rw [aK];simp [DN]
 ·rw [aH D.symm,aK];simp [DN]
 ·rw [aH A.symm,aH G,aK,Ve z y e]
theorem b0G(l:Y15)(n:Nd):l<+:(kQ l n).1:=by
 unfold kQ
 split
 ·exact DI _
 ·exact DC _ _
mutual
theorem uC: ∀(t:T)(vars imms:Y12)(l:Y15),l<+:(cB t vars imms l).1
 | .mk v op im iv ks,vars,imms,l=>by
  by_cases hv:0<v
  ·rw [A0 hv];exact DI _
  ·rw [qY hv];exact(nH ks vars imms l).trans (b0G _ _)
theorem nH: ∀(ks:List T)(vars imms:Y12)(l:Y15),l<+:(cH ks vars imms l).1
 | [],vars,imms,l=>DI _
 |t::r,vars,imms,l=>(uC t vars imms l).trans (nH r vars imms _)
end
def fI(op im:Int)(k:Y12):Int:=
 if mC op=false\/ (k.length:Int)≠ar op\/iH op im=false then 0
 else if op=3 then(if im%16=0 then 2 else 1)
 else if op=26 then 2
 else if op=22 then(if k.getD 0 0≠1\/k.getD 1 0≠k.getD 2 0\/k.getD 1 0=3 then 0 else k.getD 1 0)
 else if op=23 then(if k=[2,1]then 1 else 0)
 else if op=24 then(if k=[2]then 1 else 0)
 else if op=27\/op=29 then(if k=[2,1]then 2 else 0)
 else if op=28 then(if k=[2,1,1]then 2 else 0)
 else if k.all (fun x=>decide (x=1))=true then 1 else 0
def dU(g:Y12)(q:Int):Bool:=decide (0<=q) && (decide (q<g.length) &&decide (g.getD q.toNat 0≠0))
def Bi(g:Y12)(n:Nd):Int:=if n.ks.all (dU g)=true then fI n.op n.im (n.ks.map fun q=>g.getD q.toNat 0)else 0
def gW:Y12->Y15->Y12
 |out,[]=>out
 |out,n::r=>gW (out++ [Bi out n]) r
def bO(l:Y15):Y12:=gW [] l
theorem E9(n:Nd): ∀(l:Y15)(g:Y12),gW g (l++ [n])=gW g l++ [Bi (gW g l) n]
 | [],g=>rfl
 |x::l,g=>by
  rw [CO,gW,gW,E9 n l]
theorem Kq(l:Y15)(n:Nd):bO (l++ [n])=bO l++ [Bi (bO l) n]:=E9 n l []
theorem S4: ∀(l:Y15)(g:Y12),(gW g l).length=g.length+l.length
 | [],g=>rfl
 |x::l,g=>by
  rw [gW,S4 l];simp only [AJ,AW,BW];omega
theorem S2(l:Y15):(bO l).length=l.length:=by unfold bO;rw [S4];simp
theorem S5: ∀(l:Y15)(g:Y12),g<+:gW g l
 | [],g=>DI _
 |x::l,g=>(DC _ _).trans (S5 l _)
theorem S3: ∀(l r:Y15)(g:Y12),gW g (l++r)=gW (gW g l) r
 | [],r,g=>rfl
 |x::l,r,g=>by rw [CO,gW,gW,S3 l r]
theorem Sl{l y:Y15}(h:l<+:y):bO l<+:bO y:=by
 obtain⟨r,rfl⟩:=h;unfold bO
 rw [S3];exact S5 _ _
theorem tD{a b:Y12}(h:a<+:b){i:Nat}(g:i<a.length):b.getD i 0=a.getD i 0:=by
 obtain⟨r,rfl⟩:=h;simp only [AC,BJ g]
def SO(l:Y15)(i id:Nat)(h:Heap):Prop:=(0<i/\i<=l.length)/\h.get id= .tip i/\id<h.next
def SK(k:Y12)(id g:Nat)(h:Heap):Prop:=0<k.length/\h.get g= .tip k.length/\g<h.next/\g≠id
def dT(l:Y15)(i j:Nat):Nat:=match l[i]? with
 |some n=>n.ks.length-j
 |none=>0
theorem fF{l:Y15}{i j:Nat}(h:i<l.length):dT l i j=l[i].ks.length-j:=by
 unfold dT
 rw [AA h]
theorem lD{q:Int}(h:q<0):dU K q=false:=by
 unfold dU
 rw [decide_eq_false JF,BM]
theorem lC{q:Int}(h:(K.length:Int)<=q):dU K q=false:=by
 unfold dU
 rw [decide_eq_false (p:=q<_) JF,BM,DB]
theorem lE{q:Int}(h:q.toNat<K.length)(g:K[q.toNat]=0):dU K q=false:=by
 have e:K.getD q.toNat 0=0:=by rw [AC,AA h];exact g
 unfold dU
 rw [e];simp
theorem jR{q:Int}(h0:0<=q)(h:q.toNat<K.length)(g:K[q.toNat]≠0):dU K q=true/\K.getD q.toNat 0=K[q.toNat]:=by
 have e:K.getD q.toNat 0=K[q.toNat]:=by rw [AC,AA h];rfl
 unfold dU
 rw [e];refine⟨?_,rfl⟩;simp only [AD,decide_eq_true_eq];exact⟨h0,JF,g⟩
theorem Ai{op im:Int}{k:Y12}(h:op≠25/\op≠30/\op≠31):mC op=true->(k.length:Int)=ar op->iH op im=true->fI op im k=(if op=3 then(if im%16=0 then 2 else 1)else if op=26 then 2 else if op=22 then(if k.getD 0 0≠1\/k.getD 1 0≠k.getD 2 0\/k.getD 1 0=3 then 0 else k.getD 1 0)
  else if op=23 then(if k=[2,1]then 1 else 0)else if op=24 then(if k=[2]then 1 else 0)else if op=27\/op=29 then(if k=[2,1]then 2 else 0)else if op=28 then(if k=[2,1,1]then 2 else 0)else if k.all (fun x=>decide (x=1))=true then 1 else 0):=by
 intro h1 h2 h3;unfold fI
 rw [if_neg (by simp [h1,h2,h3])]
def WFN(l:Y15):Prop:= ∀s∈bO l,s≠0
theorem a0U{op im:Int}(g:kD op=true)(l:iH op im=true):fI op im (pR op)=Kp op:=by
 have m:=Fm g;unfold kD at g;rw [decide_eq_true_eq]at g;have j:mC op=true:=by unfold mC;rw [decide_eq_true_eq];omega
 unfold fI
 rw [if_neg (by simp [j,m,l]),if_neg JF,if_neg JF];have:op=1\/op=4\/op=5\/op=6\/op=7\/op=8\/op=9\/op=10\/op=11\/op=12\/op=13\/op=14\/op=15\/op=16\/op=17\/op=18\/op=19\/op=20\/op=21\/op=22\/op=23\/op=24\/op=27\/op=28\/op=29:=JF;clear m g j l;rcases this with h|h|h|h|h|h|h|h|h|h|h|h|h|h|h|h|h|h|h|h|h|h|h|h|h<;>subst h<;>rfl
def Z6:Y15:=[⟨2,0,[]⟩,⟨2,1,[]⟩,⟨26,0,[]⟩]
def NW(i:Nat)(x:Y15):Prop:=(3<=x.length/\x.length<=3+i)/\(∀n∈x,lV n/\n.ks.length<=3/\(n.op≠25/\n.op≠30/\n.op≠31))/\WFN x/\(Z6<+:x/\x.Nodup/\∀n∈x,n.op≠3)
def OI(op im:Int):Prop:=kD op=true/\aU im/\(op=1\/im=0)
def KS(x:Y15)(op:Int)(ks:Y12):Prop:=(ks.length:Int)<=ar op/\∀(i:Nat)(k:Int),ks[i]?=some k->0<=k/\k<x.length/\(bO x).getD k.toNat 0=rY op i
def FN(x:Y15)(op im:Int)(ks:Y12):Prop:=kD op=true/\iH op im=true/\aU im/\KS x op ks/\(ks.length:Int)=ar op
theorem NW.init:NW 0 Z6:=by
 refine⟨JG,?_,?_,DI _,JG,JG⟩
 ·intro n g;simp only [Z6,CD,DU,or_false]at g;rcases g with rfl|rfl|rfl<;>refine⟨⟨?_,?_,?_⟩,?_,?_⟩<;>simp [aU]
 ·have:bO Z6=[1,1,2]:=rfl;intro s j;rw [this]at j;simp at j;omega
theorem NW.mono{i j:Nat}{x:Y15}(h:NW i x)(g:i<=j):NW j x:=⟨⟨h.1.1,by have:=h.1.2;omega⟩,h.2⟩
theorem d5M(op:Int): -1<=ar op/\ar op<=3:=by unfold ar;repeat' split<;>omega
theorem Ro{op:Int}(h:kD op=true):1<=op/\op<=29/\op≠25/\0<=ar op:=by
 have:=Fm h;unfold kD at h;rw [decide_eq_true_eq]at h;omega
theorem NW.app{i:Nat}{x:Y15}{op im:Int}{ks:Y12}(h:NW i x)(Z:x.length<=1000000)(V:(⟨op,im,ks⟩:Nd) ∉x)(f:FN x op im ks):NW (i+1) (x++ [⟨op,im,ks⟩]):=by
 obtain⟨h1,h2,h3,h4⟩:=h;obtain⟨l,G,K,⟨_,p⟩,Y⟩:=f;have y:=Ro l;have L:=d5M op;have A:=Fm l;refine⟨by simp only [AJ,AW,BW];omega,?_,?_,h4.1.trans (DC _ _),List.nodup_append.2 ⟨h4.2.1,JH,fun a O b y e=>V (by rw [BN]at y;rw [<-y,<-e];exact O)⟩,fun n g=>by
  rcases BU.1 g with g|g
  ·exact h4.2.2 n g
  ·rw [BN.1 g];show op≠3;unfold kD at l;rw [decide_eq_true_eq]at l;omega⟩
 ·intro n g;rcases BU.1 g with g|g
  ·exact h2 n g
  ·rw [BN.1 g];refine⟨⟨by show aU op;unfold aU;omega,K,fun k R=>?_⟩,by show ks.length<=3;omega,by show op≠25/\op≠30/\op≠31;omega⟩;obtain⟨j,z,rfl⟩:=CT.1 R;have:=p j _ (AA z);unfold aU
   omega
 ·intro s m;rw [Kq]at m;rcases BU.1 m with m|m
  ·exact h3 s m
  ·rw [BN.1 m];unfold Bi
   rw [if_pos]
   ·have e:(ks.map fun q=>(bO x).getD q.toNat 0)=pR op:=by
     refine CY fun j=>?_
     rcases BB j ks.length with q|q
     ·have D:j< (pR op).length:=JF;have:=p j _ (AA q);rw [BL,AA q,AA D,<-d0B l D,<-this.2.2];rfl
     ·rw [BH (by simpa using q),BH JF]
    show fI op im _≠0;rw [e,a0U l G];unfold Kp
    split<;>decide
   ·rw [BQ];intro q X;obtain⟨j,z,rfl⟩:=CT.1 X;have:=p j _ (AA z);have r:rY op j≠0:=by unfold rY;split<;>decide
    unfold dU
    simp only [AD,decide_eq_true_eq];rw [S2];exact⟨this.1,this.2.1,by rw [this.2.2];exact r⟩
theorem NW.has{i:Nat}{x:Y15}(h:NW i x)(op k:Int):rY op k∈bO x:=by
 obtain⟨r,g⟩:=Sl h.2.2.2.1;have:bO Z6=[1,1,2]:=rfl;rw [<-g,this];unfold rY
 split<;>simp
theorem NW.sorts{i:Nat}{x:Y15}(h:NW i x): ∀n∈x,n.ks.length<=1000000/\n.op≠25/\n.op≠30/\n.op≠31:=fun n g=>by
 have:=h.2.1 n g;exact⟨JF,this.2.2⟩
theorem KS.nil{x:Y15}{op:Int}(h:kD op=true):KS x op []:=⟨(Ro h).2.2.2,fun i k h=>by simp at h⟩
theorem KS.snoc{x:Y15}{op:Int}{ks:Y12}{q:Int}(h:KS x op ks)(m:(ks.length:Int)<ar op)(l:0<=q/\q<x.length/\(bO x).getD q.toNat 0=rY op ks.length):KS x op (ks++ [q]):=by
 refine⟨by simp only [AJ,AW,BW];omega,fun i k g=>?_⟩;rcases BB i ks.length with p|p
 ·rw [BJ p]at g;exact h.2 i k g
 ·rw [BA p]at g;rcases BB (i-ks.length) 1 with j|j
  ·obtain rfl:i=ks.length:=JF;simp at g;subst g;exact l
  ·rw [BH (by simpa using j)]at g
   cases g
def OH(x:Y15)(id:Nat)(g:Heap):Prop:=g.get id= .tip (x.length*3)/\id<g.next
def KH(ks:Y12)(id:Nat)(g:Heap):Prop:=0<ks.length/\g.get id= .tip ks.length/\id<g.next
theorem OH.push{x:Y15}{id:Nat}{g:Heap}{y:IObj}(h:OH x id g):OH x id (g.push y):=⟨by rw [aQ h.2];exact h.1,BY h.2⟩
theorem OH.hf{x:Y15}{id rd:Nat}{g j:Heap}(h:OH x id g)(hf:HF rd g j)(l:id≠rd):OH x id j:=⟨by rw [hf.2 id h.2 l];exact h.1,BS h.2 hf.1⟩
theorem KH.hf{x:Y12}{id rd:Nat}{g j:Heap}(h:KH x id g)(hf:HF rd g j)(l:id≠rd):KH x id j:=⟨h.1,by rw [hf.2 id h.2.2 l];exact h.2.1,BS h.2.2 hf.1⟩
theorem OI.fn{x:Y15}{op im g:Int}{ks:Y12}(h:OI op im)(j:KS x op ks)(l:(ks.length:Int)=ar op)(p:(op≠23/\op≠27/\op≠28/\g=im) \/ ((op=23\/op=28)/\0<=g/\g<=1) \/ (op=27/\1<=g/\g<=2)):FN x op g ks:=by
 obtain⟨h1,h2,h3⟩:=h;have m:=Ro h1;refine⟨h1,?_,?_,j,l⟩
 ·unfold kD at h1;rw [decide_eq_true_eq]at h1;have q:=a0P h1;unfold iH
  rw [decide_eq_true_eq];omega
 ·unfold aU at h2⊢;omega
structure ND where
 i:Nat
 x:Y15
 io:Y10
 e:Nat
 op:Int
 im:Int
 ks:Y12
 kv:IV
 rd:Nat
 g:Heap
def OV(x:ND):Prop:=NW x.i x.x/\((x.io=none/\x.e=1) \/ ∃id,x.io=some id/\x.e=x.x.length*3/\OH x.x id x.g)
def OR(x:ND):Prop:=OV x/\RD x.g x.rd/\∀id,x.io=some id->id≠x.rd
def KV(x:ND):Prop:=KS x.x x.op x.ks/\((x.kv= .nilslice/\x.ks=[]) \/ ∃id,x.kv= .vslice (some id) x.ks.length x.ks.length 1 (x.ks.map (IV.int .i64))/\KH x.ks id x.g/\id≠x.rd/\∀j,x.io=some j->j≠id)
theorem RD.hf{h h2:Heap}{id j:Nat}(r:RD h id)(hf:HF j h h2)(g:id≠j):RD h2 id:=by
 obtain⟨h1,m,e,p,l,h3,h4⟩:=r;exact⟨BS h1 hf.1,m,e,p,l,h3,by rw [hf.2 id h1 g];exact h4⟩
theorem a3K{h:Heap}{s:IV}{ks:Y12}{q:Int}{K:Nat->Nat->Nat->Y14->Heap->Prop}
  (hs:(s= .nilslice/\ks=[]) \/ ∃id,s= .vslice (some id) ks.length ks.length 1 (ks.map (IV.int .i64))/\KH ks id h) (hl:ks.length<=1000000)
  (hk: ∀id h2,KH (ks++ [q]) id h2->HF id h h2->(h.next<=id\/s= .vslice (some id) ks.length ks.length 1 (ks.map (IV.int .i64)))->K id (ks++ [q]).length (ks++ [q]).length ((ks++ [q]).map (IV.int .i64)) h2):
  gH h 1 8 s 1 [.int .i64 q] K:=by
 rcases hs with⟨rfl,rfl⟩| ⟨id,rfl,k1,k2,k3⟩
 ·exact⟨JG,hk h.next (h.push (.tip 1)) ⟨Nat.one_pos,aT,AV _⟩ HF.push (.inl (AG _))⟩
 ·have:=hk id (h.set id (.tip (ks.length+1))) ⟨JH,by rw [aK];simp,k3⟩ HF.set (.inr rfl);refine⟨⟨rfl,JF,k2⟩,?_⟩;simpa using this
theorem Tz{g:Heap}{e:Nat}{x:Y15}{n:Nd}{K:Nat->Nat->Nat->Y14->Heap->Prop}
  (hs:(N=none/\e=1) \/ ∃id,N=some id/\e=x.length*3/\OH x id g) (hl:x.length<=1000000)
  (hk: ∀id h2,OH (x++ [n]) id h2->K id ((x++ [n]).length*3) (x++ [n]).length ((x++ [n]).flatMap cN) h2):
  gH g 3 40 (.vslice N e x.length 3 (x.flatMap cN)) 1 (cN n) K:=by
 rcases hs with⟨rfl,rfl⟩| ⟨id,rfl,rfl,k1,k2⟩
 ·refine⟨⟨rfl,JF⟩,?_⟩;have:=hk g.next (g.push (.tip ((x.length+1)*3))) ⟨by rw [aT];simp,AV _⟩;simpa using this
 ·refine⟨⟨rfl,JF,k1⟩,?_⟩;have:=hk id (g.set id (.tip (x.length*3+3))) ⟨by rw [aK];simp [DN],k2⟩;simpa [DN]using this
theorem OR.mk1{x:ND}(h:OV x)(op im a b c:Int):OR ⟨x.i,x.x,x.io,x.e,op,im,[],.nilslice,x.g.next,x.g.push (.cells [.vslice none 1 3 1 [.int .i64 (IntKind.i64.wrap a),.int .i64 (IntKind.i64.wrap b),.int .i64 (IntKind.i64.wrap c)],.int .i64 0])⟩:=by
 obtain⟨h1,h2⟩:=h;refine⟨⟨h1,?_⟩,⟨AV _,none,1,0,[IntKind.i64.wrap a,IntKind.i64.wrap b,IntKind.i64.wrap c],?_,aT⟩,?_⟩
 ·rcases h2 with h2| ⟨id,l,q,m⟩
  ·exact .inl h2
  ·exact .inr ⟨id,l,q,m.push⟩
 ·intro y p;simp only [CD,DU,or_false]at p;rcases p with rfl|rfl|rfl<;>exact tK _
 ·intro id j;rcases h2 with h2| ⟨r,l,q,m⟩
  ·rw [show x.io=none from h2.1]at j
   cases j
  ·have j:x.io=some id:=j;rw [l]at j
   cases j
   exact EQ m.2
end Go.M15
end
end
