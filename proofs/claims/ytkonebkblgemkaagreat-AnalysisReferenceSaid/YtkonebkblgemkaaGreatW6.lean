/-
  Texts of this proof, one after the other.
  Conditions: none.
-/
import Derived.Test.YtkonebkblgemkaaGreatW5
set_option linter.unusedVariables false
set_option linter.unusedSimpArgs false
set_option maxRecDepth 100000
set_option maxHeartbeats 4000000
noncomputable section
variable{i j m b:Nat}{x y z u v:Int}{h g:Go.Pv.Heap}{c d l:List Go.Pv.IV}{K L:Y12}{s t:Go.Pv.IV}{D:Go.Pv.Meta}{V W:List Go.Value}{T U:Go.TypeId}{o:Bool}{X Y:Go.Value}{r:Y11}{O:Go.Oper}{N:Y10}{H:Array Go.Value}
section
namespace Go.M13
def a6K:Y12:=[0,1,-1,2,-9223372036854775808,9223372036854775807,4294967296,-2147483648,63,64]
def contains(a b n:Int):Bool:=decide (a<=n) &&decide (n<=b)
def wlo(a c:Int):Int:=if c<a then-9223372036854775808 else a
def whi(b d:Int):Int:=if d>b then 9223372036854775807 else b
def iS(a b c d:Int):Bool:=decide (max a c<=min b d)
def mM(a b c d:Int):Int×Int:=if iS a b c d then(max a c,min b d)else(0,0)
end Go.M13
namespace Go.M13
theorem uZ(n m:Int)(h:0<m):(n.tmod m<0/\n.tmod m+m=n%m/\0<n%m/\n%m<m) \/ (0<=n.tmod m/\n.tmod m=n%m):=by
 have h1:n%m=if 0<=n\/m∣n then n.tmod m else n.tmod m+m:=by
  rw [Int.tmod_eq_emod];split<;>rename_i g
  .omega
  .rw [show(m.natAbs:Int)=m by omega];omega
 have h2:=CT n (show m≠0 by omega);have h3:=CR n h;split at h1
 .right;omega
 .rename_i g;have:n%m≠0:=λe=>g (.inr (Int.dvd_of_emod_eq_zero e))
  left;omega
end Go.M13
namespace Go.M13
abbrev dH:Int:= -9223372036854775808
abbrev dN:Int:=9223372036854775807
def aZ(n:Int):Prop:= -9223372036854775808<=n/\n<=9223372036854775807
def dM(n:Int):Bool:=decide (-9223372036854775808<=n) &&decide (n<=9223372036854775807)
def Y1(b c:Bool):Int×Int:=if b then(1,1)else if c then(0,0)else(0,1)
def Vo(a:Int):Int:=IntKind.i64.wrap (BitVec.ofInt IntKind.i64.bits (if IntKind.i64.signed=true then(-1:Int)else IntKind.i64.max) ^^^BitVec.ofInt IntKind.i64.bits a).toNat
def Az(a b:Int):Int:=IntKind.i64.wrap (BitVec.ofInt IntKind.i64.bits a&&&BitVec.ofInt IntKind.i64.bits b).toNat
def ior(a b:Int):Int:=IntKind.i64.wrap (BitVec.ofInt IntKind.i64.bits a|||BitVec.ofInt IntKind.i64.bits b).toNat
def b1H(a b:Int):Int:=IntKind.i64.wrap (BitVec.ofInt IntKind.i64.bits a^^^BitVec.ofInt IntKind.i64.bits b).toNat
def Yq(o a:Int):Int:=if o=20 then IntKind.i64.wrap (0-a)else if o=21 then Vo a else 0
def A0(a b:Int):Int:=if b=0 then 0 else if b= -1 then IntKind.i64.wrap (0-a)else IntKind.i64.wrap (a.tdiv b)
def nU(b:Bool):Int:=if b then 1 else 0
def Sx(b:Int):Int:=IntKind.u64.wrap (Az b 63)
theorem lH(b:Int):0<=Sx b:=by
 unfold Sx
 simp only [IntKind.wrap,IntKind.bits,IntKind.signed];simp;omega
def A8(o a b:Int):Int:=
 if o=12 then IntKind.i64.wrap (a*2^min (Sx b).toNat IntKind.i64.bits)
 else if o=13 then IntKind.i64.wrap ((IntKind.u64.wrap a).fdiv (2^min (Sx b).toNat IntKind.u64.bits))
 else if o=14 then a.fdiv (2^min (Sx b).toNat IntKind.i64.bits)
 else if o=15 then nU (a==b)
 else if o=16 then nU (a !=b)
 else if o=17 then nU (decide (a<b))
 else if o=18 then nU (decide (a<=b))
 else if o=19 then nU (decide (IntKind.u64.wrap a<IntKind.u64.wrap b))
 else 0
def A1(o a b:Int):Int:=
 if o=4 then IntKind.i64.wrap (a+b)
 else if o=5 then IntKind.i64.wrap (a-b)
 else if o=6 then IntKind.i64.wrap (a*b)
 else if o=7 then A0 a b
 else if o=8 then if b=0 then 0 else IntKind.i64.wrap (a-IntKind.i64.wrap (A0 a b*b))
 else if o=9 then Az a b
 else if o=10 then ior a b
 else if o=11 then b1H a b
 else A8 o a b
end Go.M13
namespace Go.M13
def Cq(lo g:Int):Int×Int:=if dM lo&&dM g then(lo,g)else(dH,dN)
def zZ(a b c d:Int):Int×Int:=if c<1 then(dH,dN)else(if a<0 then max a (1-d)else 0,if 0<b then min b (d-1)else 0)
def G3(o a b c d:Int):Int×Int:=
 if o=15 then Y1 false (!iS a b c d)
 else if o=16 then Y1 (!iS a b c d) false
 else if o=18 then Y1 (decide (b<=c)) (decide (d<a))
 else if o=19/\(a<0\/c<0)/\(0<=b\/0<=d)then(0,1)
 else Y1 (decide (b<c)) (decide (d<=a))
def jO(a b c d e f:Int):Int×Int:=
 if b<a\/d<c\/f<e then(dH,dN)
 else if a=0/\b=0 then(e,f)
 else if contains a b 0 then(min c e,max d f)else(c,d)
theorem By(n:Int):IntKind.i64.wrap n=(n+9223372036854775808)%18446744073709551616-9223372036854775808:=IntKind.wrap_i64 n
theorem e3Y{a b:Int}(g:aZ a)(i:aZ b):(decide (IntKind.i64.wrap (a+b)<a)==decide (b<0))=dM (a+b):=by
 unfold aZ at g i;unfold dM
 rw [By]
 grind
theorem c7R{a b:Int}(g:aZ a)(i:aZ b):(decide (IntKind.i64.wrap (a-b)>a)==decide (b<0))=dM (a-b):=by
 unfold aZ at g i;unfold dM
 rw [By]
 grind
theorem d0B{a b:Int}(g:aZ a)(i:aZ b):((!decide (a<0)==decide (b<0))|| (decide (IntKind.i64.wrap (a+b)<0)==decide (a<0)))=dM (a+b):=by
 unfold aZ at g i;unfold dM
 rw [By]
 grind
theorem d0D{a b:Int}(g:aZ a)(i:aZ b):((decide (a<0)==decide (b<0))|| (decide (IntKind.i64.wrap (a-b)<0)==decide (a<0)))=dM (a-b):=by
 unfold aZ at g i;unfold dM
 rw [By]
 grind
theorem eL{n:Int}(h:dM n=true):IntKind.i64.wrap n=n:=by
 unfold dM at h;simp at h;exact AA _ JZ
theorem b7U(c:Int):Az c 63=c%64:=by
 unfold Az
 have h:(BitVec.ofInt IntKind.i64.bits c&&&BitVec.ofInt IntKind.i64.bits 63).toNat=(c%64).toNat:=by
  have e:IntKind.i64.bits=64:=rfl;rw [e];rw [BitVec.toNat_and];have g:(BitVec.ofInt 64 63).toNat=2^6-1:=KA;rw [g,HE,BitVec.toNat_ofInt];omega
 rw [h,AA _ JZ];omega
theorem d1A(c:Int):Sx c=c%64:=by
 unfold Sx
 rw [b7U];exact EP _ JZ
end Go.M13
namespace Go.M13
def gH(n:Nat):Nat:=if n=0 then 0 else n.log2+1
def I3(n:Int):Int:=((2^gH n.toNat:Nat):Int)-1
def V3(x n:Int):Prop:= ∃k:Nat,x=((2^k:Nat):Int)-1/\k<=63/\(k=0\/ ((2^ (k-1):Nat):Int)-1<n)
theorem Vr(n:Int):V3 0 n:=⟨0,KB,JZ,.inl rfl⟩
theorem Vq{x n:Int}(h:V3 x n)(j:x<n)(r:n<=9223372036854775807):0<=x/\2*x+1<=9223372036854775807/\V3 (2*x+1) n:=by
 obtain⟨k,rfl,hk,_⟩:=h;have i:0<2^k:=HQ JZ;have g:k<=62:=by
  rcases BK k 63 with q|q
  .omega
  .obtain rfl:k=63:=JZ;simp at j;omega
 have m:2^k<=2^62:=EN JZ g;have l:(2:Nat) ^62=4611686018427387904:=KA;have u:2^ (k+1)=2*2^k:=by rw [Nat.pow_succ];omega
 refine⟨JZ,JZ,k+1,JZ,JZ,.inr ?_⟩;simpa using j
theorem a1X{x n:Int}(h:V3 x n)(m: ¬x<n):x=I3 n:=by
 obtain⟨k,rfl,hk,i⟩:=h;unfold I3
 suffices hb:gH n.toNat=k by rw [hb]
 unfold gH
 rcases GE k with g|g
 .subst g;have:n.toNat=0:=by simp at m;omega
  rw [if_pos this]
 .have i:=i.resolve_left JZ;have l:0<2^ (k-1):=HQ JZ;have j:n.toNat≠0:=JZ;rw [if_neg j];have:n.toNat.log2=k-1:=(GA j).2 ⟨JZ,by rw [show k-1+1=k by omega];omega⟩;omega
def D8(a p:Int):Int:=IntKind.i64.wrap (a*p)
def Fo(a p:Int):Bool:=(D8 a p).fdiv p==a
def uK(o a b c d:Int):Int×Int:=
 if o=12 then
  if c=d then if Fo a (2^ (c%64).toNat)/\Fo b (2^ (c%64).toNat)then(D8 a (2^ (c%64).toNat),D8 b (2^ (c%64).toNat))else(dH,dN)
  else(dH,dN)
 else if o=14 then if c=d then(a.fdiv (2^ (c%64).toNat),b.fdiv (2^ (c%64).toNat))else(min a 0,max b (-1))
 else if c=d then
  if c%64=0 then(a,b)
  else if 0<=a then(a.fdiv (2^ (c%64).toNat),b.fdiv (2^ (c%64).toNat))
  else(0,IntKind.i64.wrap (IntKind.i64.wrap (1*2^ (64-c%64).toNat)-1))
 else if 0<=a then(0,b)else(dH,dN)
theorem d7K:IntKind.bits IntKind.i64=64:=rfl
theorem e8L(c:Int):min (c%64).toNat 64=(c%64).toNat:=JZ
end Go.M13
namespace Go.M13
def Bc(o a b:Int):Int×Int:=
 if(o≠20/\o≠21) \/b<a then(dH,dN)
 else if a=b then(Yq o a,Yq o a)
 else if o=21 then(Vo b,Vo a)
 else if a=dH then(dH,dN)
 else(IntKind.i64.wrap (0-b),IntKind.i64.wrap (0-a))
end Go.M13
namespace Go.M13
theorem c0R{a b:Int}(j:b≠0)(i:aZ b):((IntKind.i64.wrap (a*b)).tdiv b==a)=dM (a*b):=by
 by_cases hab:dM (a*b)=true
 .rw [eL hab,Int.mul_tdiv_cancel _ j,hab];simp
 .rw [show dM (a*b)=false by simpa using hab];rw [beq_eq_false_iff_ne];intro h;have h1:=JE (IntKind.i64.wrap (a*b)) b;rw [h]at h1;have h2:(IntKind.i64.wrap (a*b)).tmod b<b.natAbs/\ -(b.natAbs:Int)< (IntKind.i64.wrap (a*b)).tmod b:=by
   constructor
   .have:=Int.tmod_lt_of_pos (IntKind.i64.wrap (a*b)) (show(0:Int)<b.natAbs by omega);rcases Int.natAbs_eq b with e|e
    .rw [<-e]at this;rw [<-e];exact this
    .have g:(b.natAbs:Int)= -b:=JZ;rw [g,Int.tmod_neg]at this;omega
   .have:=Int.lt_tmod_of_pos (IntKind.i64.wrap (a*b)) (show(0:Int)<b.natAbs by omega);rcases Int.natAbs_eq b with e|e
    .rw [<-e]at this;rw [<-e];exact this
    .have g:(b.natAbs:Int)= -b:=JZ;rw [g,Int.tmod_neg]at this;omega
  rw [By]at h1 h2;unfold aZ at i;unfold dM at hab;simp only [AE,decide_eq_true_eq]at hab;rw [GG b a]at h1;omega
end Go.M13
namespace Go.M13
theorem rD{s b:Int}(j:aZ s)(l:b≠0)(i:b≠ -1):IntKind.i64.wrap (s.tdiv b)=s.tdiv b:=by
 unfold aZ at j;apply AA;have h1:(s.tdiv b).natAbs=s.natAbs/b.natAbs:=Int.natAbs_tdiv s b;rcases BK s.natAbs 9223372036854775808 with h|h
 .have h2:s.natAbs/b.natAbs<=s.natAbs:=Nat.div_le_self _ _;omega
 .have e:s= -9223372036854775808:=JZ;subst e;rcases BK 1 b.natAbs with g|g
  .have h3:(-9223372036854775808:Int).natAbs/b.natAbs<=9223372036854775808/2:=Nat.div_le_div_left g JZ;omega
  .obtain rfl:b=1:=JZ;simp
theorem bZ(n:Int):aZ (IntKind.i64.wrap n):=by
 unfold aZ
 rw [By];omega
end Go.M13
end
section
namespace Go.M13
open Go.Pv
theorem a0L{n k:Nat}(h:2^k<=n):gH n=k+gH (n/2^k):=by
 have g:0<2^k:=HQ JZ;have i:n≠0:=JZ;have hd:n/2^k≠0:=by
  have:=(JF g).2 (show 1*2^k<=n by omega);omega
 unfold gH
 rw [if_neg i,if_neg hd]
 suffices hs:n.log2=k+(n/2^k).log2 by omega
 obtain⟨h1,h2⟩:=(GA hd (k:=(n/2^k).log2)).1 rfl;refine(GA i).2 ⟨?_,?_⟩
 .rw [Nat.pow_add,IN];exact(JF g).1 h1
 .rw [EY,Nat.pow_add,IN (2^k)];exact(HA g).1 h2
theorem Pi{n k:Nat}(h:n<2^k):gH n<=k:=by
 unfold gH
 split
 .omega
 .rename_i g;obtain⟨h1,h2⟩:=(GA g (k:=n.log2)).1 rfl;rcases BK n.log2 k with q|q
  .omega
  .have:=EN (show 0<2 by omega) q;omega
theorem c8R(n:Nat):n<2^gH n:=by
 unfold gH
 split
 .omega
 .rename_i g;exact((GA g (k:=n.log2)).1 rfl).2
theorem b1Q(x y g i j l:Int)(m:x=i*4294967296+g)(r:y=l*4294967296+j):
  x*y=(i*l)*18446744073709551616+(i*j+g*l)*4294967296+g*j:=by
 grind
theorem D1{x y:Int}(h1:0<=x)(h2:x<=4294967295)(h3:0<=y)(h4:y<=4294967295):0<=x*y/\x*y<=18446744065119617025:=
 ⟨Int.mul_nonneg h1 h3,Int.mul_le_mul h2 h4 h3 JZ⟩
def A7(x y:Int):Int:=x*y/18446744073709551616
theorem Gc(n:Int):IntKind.u64.wrap n=n%18446744073709551616:=by
 unfold IntKind.wrap
 simp [IntKind.bits,IntKind.signed]
theorem c4E(x:Int):fM .u64 x 4294967295=x%4294967296:=by
 unfold fM
 have h:(BitVec.ofInt IntKind.u64.bits x&&&BitVec.ofInt IntKind.u64.bits 4294967295).toNat=(x%4294967296).toNat:=by
  have e:IntKind.u64.bits=64:=rfl;rw [e,BitVec.toNat_and];have g:(BitVec.ofInt 64 4294967295).toNat=2^32-1:=KA;rw [g,HE,BitVec.toNat_ofInt];omega
 rw [h,Gc];omega
theorem c0Q{x y:Int}(D:0<=x)(j:x<=18446744073709551615)(G:0<=y)(u:y<=18446744073709551615):
  x/4294967296*(y/4294967296)+(x/4294967296*(y%4294967296)+x%4294967296*(y%4294967296)/4294967296)/4294967296
   +((x/4294967296*(y%4294967296)+x%4294967296*(y%4294967296)/4294967296)%4294967296+x%4294967296*(y/4294967296))/4294967296=A7 x y:=by
 have l:0<=x%4294967296/\x%4294967296<=4294967295:=JZ;have m:0<=x/4294967296/\x/4294967296<=4294967295:=JZ;have z:0<=y%4294967296/\y%4294967296<=4294967295:=JZ;have A:0<=y/4294967296/\y/4294967296<=4294967295:=JZ;have g:x=x/4294967296*4294967296+x%4294967296:=JZ;have i:y=y/4294967296*4294967296+y%4294967296:=JZ;generalize x%4294967296=x0 at*
 generalize x/4294967296=x1 at*
 generalize y%4294967296=y0 at*
 generalize y/4294967296=y1 at*
 have hm:=b1Q x y x0 x1 y0 y1 g i;have a:=D1 (x:=x0) (y:=y0) JZ JZ JZ JZ;have b:=D1 (x:=x0) (y:=y1) JZ JZ JZ JZ;have c:=D1 (x:=x1) (y:=y0) JZ JZ JZ JZ;unfold A7
 rw [hm];generalize x0*y0=p at*
 generalize x0*y1=q at*
 generalize x1*y0=r at*
 generalize x1*y1=s at*
 omega
theorem d1B{x y h:Int}(j:aZ x)(l:aZ y)(i:h=A7 (x%18446744073709551616) (y%18446744073709551616)- (if x<0 then y else 0)- (if y<0 then x else 0)):
  (IntKind.i64.wrap h==(IntKind.i64.wrap (x*y)).fdiv (2^63))=dM (x*y):=by
 unfold aZ at j l;have m: -85070591730234615865843651857942052864<=x*y/\x*y<=85070591730234615865843651857942052864:=by
  have h1:(x*y).natAbs<=85070591730234615865843651857942052864:=by
   rw [Int.natAbs_mul];exact JC (show x.natAbs<=9223372036854775808 by omega) (show y.natAbs<=9223372036854775808 by omega)
  omega
 have g: ∀z:Int,z.fdiv (2^63)=z/9223372036854775808:=λz=>by
  rw [show(2:Int) ^63=9223372036854775808 by decide];exact EJ _ JZ
 have r:h=x*y/18446744073709551616\/h=x*y/18446744073709551616+18446744073709551616:=by
  rw [i];unfold A7
  rcases FL x 0 with p|p<;>rcases FL y 0 with q|q
  .rw [if_pos p,if_pos q,show x%18446744073709551616=x+18446744073709551616 by omega,show y%18446744073709551616=y+18446744073709551616 by omega,
    show(x+18446744073709551616)*(y+18446744073709551616)=x*y+18446744073709551616*x+18446744073709551616*y+340282366920938463463374607431768211456 by grind]
   right
   omega
  .rw [if_pos p,if_neg JZ,show x%18446744073709551616=x+18446744073709551616 by omega,show y%18446744073709551616=y by omega,
    show(x+18446744073709551616)*y=x*y+18446744073709551616*y by grind]
   left
   omega
  .rw [if_neg JZ,if_pos q,show x%18446744073709551616=x by omega,show y%18446744073709551616=y+18446744073709551616 by omega,
    show x*(y+18446744073709551616)=x*y+18446744073709551616*x by grind]
   left
   omega
  .rw [if_neg JZ,if_neg JZ,show x%18446744073709551616=x by omega,show y%18446744073709551616=y by omega]
   left
   omega
 rw [g,By,By];unfold dM
 generalize x*y=z at*
 rw [GC];simp only [beq_iff_eq,AE,decide_eq_true_eq];omega
theorem Wp{x y:Int}(O:0<=x)(m:x<=18446744073709551615)(R:0<=y)(u:y<=18446744073709551615):
  IntKind.wrap IntKind.u64
   (IntKind.wrap IntKind.u64
     (IntKind.wrap IntKind.u64 (Int.fdiv x (4294967296:Int)*Int.fdiv y (4294967296:Int))+
      Int.fdiv
       (IntKind.wrap IntKind.u64
        (IntKind.wrap IntKind.u64 (Int.fdiv x (4294967296:Int)*fM IntKind.u64 y (4294967295:Int))+
         Int.fdiv (IntKind.wrap IntKind.u64 (fM IntKind.u64 x (4294967295:Int)*fM IntKind.u64 y (4294967295:Int))) (4294967296:Int)))
       (4294967296:Int))+
    Int.fdiv
     (IntKind.wrap IntKind.u64
      (fM IntKind.u64
        (IntKind.wrap IntKind.u64
         (IntKind.wrap IntKind.u64 (Int.fdiv x (4294967296:Int)*fM IntKind.u64 y (4294967295:Int))+
          Int.fdiv (IntKind.wrap IntKind.u64 (fM IntKind.u64 x (4294967295:Int)*fM IntKind.u64 y (4294967295:Int))) (4294967296:Int)))
        (4294967295:Int)+
       IntKind.wrap IntKind.u64 (fM IntKind.u64 x (4294967295:Int)*Int.fdiv y (4294967296:Int))))
     (4294967296:Int))=A7 x y:=by
 have f: ∀z:Int,z.fdiv 4294967296=z/4294967296:=λz=>EJ _ JZ
 rw [<-c0Q O m R u];simp only [c4E,f,Gc];have g:0<=x%4294967296/\x%4294967296<=4294967295:=JZ;have i:0<=x/4294967296/\x/4294967296<=4294967295:=JZ;have j:0<=y%4294967296/\y%4294967296<=4294967295:=JZ;have l:0<=y/4294967296/\y/4294967296<=4294967295:=JZ;generalize x%4294967296=x0 at*
 generalize x/4294967296=x1 at*
 generalize y%4294967296=y0 at*
 generalize y/4294967296=y1 at*
 have a:=D1 g.1 g.2 j.1 j.2;have b:=D1 g.1 g.2 l.1 l.2;have c:=D1 i.1 i.2 j.1 j.2;have d:=D1 i.1 i.2 l.1 l.2;generalize x0*y0=p at*
 generalize x0*y1=q at*
 generalize x1*y0=r at*
 generalize x1*y1=s at*
 have A:p%18446744073709551616=p:=JZ;have D:q%18446744073709551616=q:=JZ;have G:r%18446744073709551616=r:=JZ;have K:s%18446744073709551616=s:=JZ;rw [A,D,G,K];have L:(r+p/4294967296)%18446744073709551616=r+p/4294967296:=JZ;rw [L];omega
theorem c0S(a b:Int):IntKind.i64.wrap (IntKind.u64.wrap (IntKind.u64.wrap a*IntKind.u64.wrap b))=IntKind.i64.wrap (a*b):=by
 rw [Gc,Gc,Gc,<-Int.mul_emod,By,By];omega
theorem b3K(a b:Int):IntKind.i64.wrap (IntKind.i64.wrap a-b)=IntKind.i64.wrap (a-b):=by
 rw [By,By,By];omega
theorem Cp{x:Int}(k p:Nat)(g:2^k=p)(h:(p:Int)<=x):gH x.toNat=k+gH (x/p).toNat:=by
 subst g;have i:0<=x:=by
  have:0<2^k:=HQ JZ;omega
 obtain⟨n,rfl⟩:=Int.eq_ofNat_of_zero_le i;rw [a0L (n:=(n:Int).toNat) (k:=k) JZ]
 congr 2
theorem J5{x y h:Int}(i:aZ x)(j:aZ y)(g:h=A7 (IntKind.u64.wrap x) (IntKind.u64.wrap y)- (if x<0 then y else 0)- (if y<0 then x else 0)):
  (IntKind.i64.wrap h==(IntKind.i64.wrap (x*y)).fdiv 9223372036854775808)=dM (x*y):=by
 grind [Gc,d1B,aZ,A7,dM]
def nP(o a b c d:Int):Int×Int:=
 if o=9 then if 0<=a/\0<=c then(0,min b d)else if 0<=a then(0,b)else if 0<=c then(0,d)else(dH,dN)
 else if a<0\/c<0 then(dH,dN)
 else(if o=10 then max a c else 0,I3 (max b d))
theorem a8S{m:Int}(h0:0<=m)(h1:m<=9223372036854775807):
  IntKind.i64.wrap (IntKind.i64.wrap (1*2^ (min (IntKind.u64.wrap (gH m.toNat:Int)).toNat 64))-1)=I3 m:=by
 have j:gH m.toNat<=63:=Pi (show m.toNat<2^63 by rw [show(2:Nat) ^63=9223372036854775808 by decide];omega);rw [Gc];have g:(min ((gH m.toNat:Int)%18446744073709551616).toNat 64)=gH m.toNat:=JZ;rw [g];unfold I3
 have l:2^gH m.toNat<=2^63:=EN JZ j;rw [show(2:Nat) ^63=9223372036854775808 by decide]at l;have r:0<2^gH m.toNat:=HQ JZ;have i:((2:Int) ^gH m.toNat)=((2^gH m.toNat:Nat):Int):=KB;rw [i];generalize 2^gH m.toNat=k at*
 rw [By,By];omega
def Bf(a b c d:Int):Int:=min (min a b) (min c d)
def Be(a b c d:Int):Int:=max (max a b) (max c d)
def Dw(a b c d:Int):Int×Int:=
 if dM (a*c) &&dM (a*d) &&dM (b*c) &&dM (b*d)then(Bf (a*c) (a*d) (b*c) (b*d),Be (a*c) (a*d) (b*c) (b*d))else(dH,dN)
def Dv(a b c d:Int):Int×Int:=
 if c<1 then(dH,dN)else(Bf (a.tdiv c) (a.tdiv d) (b.tdiv c) (b.tdiv d),Be (a.tdiv c) (a.tdiv d) (b.tdiv c) (b.tdiv d))
def mI(o a b c d:Int):Int×Int:=
 if o<4\/19<o\/b<a\/d<c then(dH,dN)
 else if a=b/\c=d then(A1 o a c,A1 o a c)
 else if o=4 then Cq (a+c) (b+d)
 else if o=5 then Cq (a-d) (b-c)
 else if o=6 then Dw a b c d
 else if o=7 then Dv a b c d
 else if o=8 then zZ a b c d
 else if o=9\/o=10\/o=11 then nP o a b c d
 else if o=12\/o=13\/o=14 then uK o a b c d
 else G3 o a b c d
end Go.M13
end
section
namespace Go.M13
def jS(r:Int×Int)(n:Int):Prop:=r.1<=n/\n<=r.2
theorem gM(n:Int)(h:aZ n):jS (dH,dN) n:=h
theorem lin{a b s:Int}(k:Int)(h1:a<=s)(h2:s<=b):min (a*k) (b*k)<=s*k/\s*k<=max (a*k) (b*k):=by
 rcases FL k 0 with hk|hk
 .have:=HG h1 (show k<=0 by omega);have:=HG h2 (show k<=0 by omega);omega
 .have:=EE h1 hk;have:=EE h2 hk;omega
theorem kM{n:Int}(h:aZ n):IntKind.i64.wrap n=n:=by
 unfold aZ at h;exact AA _ JZ
section
variable {a b c d s t:Int} (h1:a<=s) (h2:s<=b) (h3:c<=t) (h4:t<=d)
include h1 h2 h3 h4
theorem e1D:jS (Dw a b c d) (IntKind.i64.wrap (s*t)):=by
 unfold Dw
 split
 .rename_i h;have i:=lin c h1 h2;have j:=lin d h1 h2;have g:=lin s h3 h4;rw [GG t s,GG c s,GG d s]at g;unfold dM at h;simp only [AE,decide_eq_true_eq]at h;rw [kM (by unfold aZ;omega)];unfold jS Bf Be
  simp only;omega
 .exact gM _ (bZ _)
theorem d7D:jS (Cq (a+c) (b+d)) (IntKind.i64.wrap (s+t)):=by
 unfold Cq
 split
 .rename_i h;unfold dM at h;simp only [AE,decide_eq_true_eq]at h;rw [kM (by unfold aZ;omega)];unfold jS
  simp only;omega
 .exact gM _ (bZ _)
theorem e3X:jS (Cq (a-d) (b-c)) (IntKind.i64.wrap (s-t)):=by
 unfold Cq
 split
 .rename_i h;unfold dM at h;simp only [AE,decide_eq_true_eq]at h;rw [kM (by unfold aZ;omega)];unfold jS
  simp only;omega
 .exact gM _ (bZ _)
end
theorem Dj{s t d:Int}(g:0<=s)(j:0<t)(i:t<=d):s.tdiv d<=s.tdiv t:=by
 rw [BQ g,BQ g];apply JG j;have h0:0<=s/d:=IZ g JZ;have h1:s/d*t<=s/d*d:=FG i h0;have h2:s/d*d<=s:=Int.ediv_mul_le s JZ;omega
theorem Va{s t d:Int}(j:s<=0)(i:0<t)(g:t<=d):s.tdiv t<=s.tdiv d:=by
 have h:=Dj (s:= -s) JZ i g;rw [JT,JT]at h;omega
theorem Xv{s t:Int}(g:aZ s)(i:1<=t):A0 s t=s.tdiv t:=by
 grind [A0,rD,aZ]
theorem d9D{a b c d s t:Int}(h1:a<=s)(h2:s<=b)(h3:c<=t)(h4:t<=d)(g:aZ s):jS (Dv a b c d) (A0 s t):=by
 unfold Dv
 split
 .refine gM _ ?_;unfold A0
  split
  .unfold aZ;omega
  split<;>exact bZ _
 .rename_i r;rw [Xv g JZ];have i:a.tdiv t<=s.tdiv t:=Int.tdiv_le_tdiv JZ h1;have j:s.tdiv t<=b.tdiv t:=Int.tdiv_le_tdiv JZ h2;have l:min (a.tdiv c) (a.tdiv d)<=a.tdiv t:=by
   rcases FL a 0 with q|q
   .have:=Va (s:=a) JZ (show 0<c by omega) h3;omega
   .have:=Dj (s:=a) JZ (show 0<t by omega) h4;omega
  have m:b.tdiv t<=max (b.tdiv c) (b.tdiv d):=by
   rcases FL b 0 with q|q
   .have:=Va (s:=b) JZ (show 0<t by omega) h4;omega
   .have:=Dj (s:=b) JZ (show 0<c by omega) h3;omega
  unfold jS Bf Be
  simp only;omega
theorem c3F{s t:Int}(g:aZ s)(l:1<=t):IntKind.i64.wrap (s-IntKind.i64.wrap (A0 s t*t))=s.tmod t:=by
 rw [Xv g l];have h:=JE s t;rw [GG]at h;have m:(s.tmod t).natAbs<=s.natAbs:=by
  rw [JA];exact Nat.mod_le _ _
 have j:(0<=s->0<=s.tmod t)/\(s<=0->s.tmod t<=0):=by
  refine⟨λq=>HH _ q,λq=>?_⟩;have:=HH (a:= -s) t JZ;rw [Int.neg_tmod]at this;omega
 unfold aZ at g;have i:IntKind.i64.wrap (s.tdiv t*t)=s.tdiv t*t:=kM (by unfold aZ;omega);rw [i];rw [kM (by unfold aZ;omega)];omega
theorem e2G{a b c d s t:Int}(h1:a<=s)(h2:s<=b)(h3:c<=t)(h4:t<=d)(g:aZ s):
  jS (zZ a b c d) (if t=0 then 0 else IntKind.i64.wrap (s-IntKind.i64.wrap (A0 s t*t))):=by
 unfold zZ
 split
 .refine gM _ ?_;split
  .unfold aZ;omega
  .exact bZ _
 .rename_i l;rw [if_neg (show¬t=0 by omega),c3F g JZ];have j:(s.tmod t).natAbs<=s.natAbs:=by
   rw [JA];exact Nat.mod_le _ _
  have m:(s.tmod t).natAbs<t.natAbs:=by
   rw [JA];exact HZ _ JZ
  have i:(0<=s->0<=s.tmod t)/\(s<=0->s.tmod t<=0):=by
   refine⟨λq=>HH _ q,λq=>?_⟩;have:=HH (a:= -s) t JZ;rw [Int.neg_tmod]at this;omega
  unfold jS
  refine⟨?_,?_⟩<;>dsimp only<;>split<;>omega
theorem T7{a:Int}(h0:0<=a)(h1:a<=9223372036854775807):(BitVec.ofInt 64 a).toNat=a.toNat:=by
 rw [BitVec.toNat_ofInt];omega
theorem Nj{s t:Int}(h0:0<=s)(h1:s<=9223372036854775807):0<=Az s t/\Az s t<=s:=by
 unfold Az
 have e:IntKind.i64.bits=64:=rfl;rw [e,BitVec.toNat_and,T7 h0 h1];have h:=Nat.and_le_left (n:=s.toNat) (m:=(BitVec.ofInt 64 t).toNat);rw [kM (by unfold aZ;omega)];omega
theorem Du{s t:Int}(h0:0<=t)(h1:t<=9223372036854775807):0<=Az s t/\Az s t<=t:=by
 unfold Az
 have e:IntKind.i64.bits=64:=rfl;rw [e,BitVec.toNat_and,T7 h0 h1];have h:=Nat.and_le_right (n:=(BitVec.ofInt 64 s).toNat) (m:=t.toNat);rw [kM (by unfold aZ;omega)];omega
theorem uT{m x:Int}(h0:0<=x)(h1:x<=m):x.toNat<2^gH m.toNat:=by
 have:=c8R m.toNat;omega
theorem Ol{m:Int}(h1:m<=9223372036854775807):2^gH m.toNat<=9223372036854775808:=by
 have g:gH m.toNat<=63:=Pi (show m.toNat<2^63 by rw [show(2:Nat) ^63=9223372036854775808 by decide];omega);have:=EN (show 0<2 by omega) g
 rwa [show(2:Nat) ^63=9223372036854775808 by decide]at this
theorem d9H{s t m:Int}(h0:0<=s)(h1:0<=t)(g:s<=m)(i:t<=m)(hm:m<=9223372036854775807):s<=ior s t/\t<=ior s t/\ior s t<=I3 m:=by
 unfold ior I3
 have e:IntKind.i64.bits=64:=rfl;rw [e,BitVec.toNat_or,T7 h0 JZ,T7 h1 JZ];have l:=Nat.or_lt_two_pow (uT h0 g) (uT h1 i);have p:=Nat.left_le_or (n:=s.toNat) (m:=t.toNat);have q:=Nat.right_le_or (n:=s.toNat) (m:=t.toNat);have k:=Ol hm;generalize s.toNat|||t.toNat=r at*
 generalize 2^gH m.toNat=z at*
 rw [kM (by unfold aZ;omega)];omega
theorem c8E{s t m:Int}(h0:0<=s)(h1:0<=t)(g:s<=m)(i:t<=m)(hm:m<=9223372036854775807):0<=b1H s t/\b1H s t<=I3 m:=by
 unfold b1H I3
 have e:IntKind.i64.bits=64:=rfl;rw [e,BitVec.toNat_xor,T7 h0 JZ,T7 h1 JZ];have l:=Nat.xor_lt_two_pow (uT h0 g) (uT h1 i);have k:=Ol hm;generalize s.toNat^^^t.toNat=r at*
 generalize 2^gH m.toNat=z at*
 rw [kM (by unfold aZ;omega)];omega
theorem Vl(s t:Int):aZ (Az s t):=bZ _
theorem a6X(s t:Int):aZ (ior s t):=bZ _
theorem Vt(s t:Int):aZ (b1H s t):=bZ _
theorem d7J{o a b c d s t:Int}(ho:o=9\/o=10\/o=11)(h1:a<=s)(h2:s<=b)(h3:c<=t)(h4:t<=d)(g:b<=9223372036854775807)(hd:d<=9223372036854775807):
  jS (nP o a b c d) (if o=9 then Az s t else if o=10 then ior s t else b1H s t):=by
 rcases ho with rfl|rfl|rfl
 .rw [if_pos rfl];unfold nP
  rw [if_pos rfl];split
  .have p:=Nj (s:=s) (t:=t) JZ JZ;have q:=Du (s:=s) (t:=t) JZ JZ;unfold jS;simp only;omega
  split
  .have p:=Nj (s:=s) (t:=t) JZ JZ;unfold jS;simp only;omega
  split
  .have q:=Du (s:=s) (t:=t) JZ JZ;unfold jS;simp only;omega
  .exact gM _ (Vl _ _)
 .rw [if_neg KA,if_pos rfl];unfold nP
  rw [if_neg KA];split
  .exact gM _ (a6X _ _)
  .have:=d9H (s:=s) (t:=t) (m:=max b d) JZ JZ JZ JZ JZ;rw [if_pos rfl];unfold jS;simp only;omega
 .rw [if_neg KA,if_neg KA];unfold nP
  rw [if_neg KA];split
  .exact gM _ (Vt _ _)
  .have:=c8E (s:=s) (t:=t) (m:=max b d) JZ JZ JZ JZ JZ;rw [if_neg KA];unfold jS;simp only;omega
theorem wA(z:Int){p:Int}(g:0<p):z.fdiv p=z/p:=EJ _ JZ
theorem a9E{a p:Int}(g:0<p)(i:p<=9223372036854775808)(h:Fo a p=true):D8 a p=a*p:=by
 unfold Fo at h;simp only [beq_iff_eq]at h;rw [wA _ g]at h;have h1:=Int.mul_ediv_add_emod (D8 a p) p;have h2:=CT (D8 a p) (show p≠0 by omega);have h3:=CR (D8 a p) g;rw [h,GG]at h1;unfold D8 at*
 rw [By]at*
 omega
theorem e3V{a b s p:Int}(l:0<p)(g:p<=9223372036854775808)(h1:a<=s)(h2:s<=b)(m:Fo a p=true)(r:Fo b p=true):
  jS (D8 a p,D8 b p) (IntKind.i64.wrap (s*p)):=by
 have i:=a9E l g m;have j:=a9E l g r;have u:aZ (a*p):=i▸bZ _;have y:aZ (b*p):=j▸bZ _;have z:=EE h1 (show 0<=p by omega);have A:=EE h2 (show 0<=p by omega);unfold aZ at u y;rw [kM (by unfold aZ;omega)];exact⟨by rw [i];exact z,by rw [j];exact A⟩
theorem uD{a s p:Int}(g:0<p)(h:a<=s):a/p<=s/p:=Int.ediv_le_ediv g h
theorem uE{s p:Int}(g:0<p):(0<=s->0<=s/p/\s/p<=s)/\(s<0->s<=s/p/\s/p<= -1):=by
 refine⟨λh=>⟨IZ h JZ,Int.ediv_le_self p h⟩,λh=>⟨?_,?_⟩⟩
 .apply JG g;have h1:=Int.mul_le_mul_of_nonpos_left (show s<=0 by omega) (show(1:Int)<=p by omega);omega
 .have:s/p<0:=Int.ediv_neg_of_neg_of_pos h g;omega
theorem b2E{k:Nat}(hk:k<=64):(2:Int) ^ (64-k)*2^k=18446744073709551616:=by
 rw [<-Int.pow_add,show 64-k+k=64 by omega];decide
theorem Xt(k:Nat):(0:Int)<2^k:=JY JZ
theorem c2X{k:Nat}(hk:k<=63):(2:Int) ^k<=9223372036854775808:=by
 have h:=EN (show 0<2 by omega) hk;rw [show(2:Nat) ^63=9223372036854775808 by decide]at h;have g:((2:Int) ^k)=((2^k:Nat):Int):=KB;omega
theorem f1I{o a b c d s t:Int}(ho:o=12\/o=13\/o=14)(h1:a<=s)(h2:s<=b)(h3:c<=t)(h4:t<=d)(L:aZ s)(V:b<=9223372036854775807)(T: -9223372036854775808<=a):
  jS (uK o a b c d) (A8 o s t):=by
 unfold A8
 have G:min (Sx t).toNat IntKind.i64.bits=(t%64).toNat:=by
  rw [d1A,d7K];omega
 have D:min (Sx t).toNat IntKind.u64.bits=(t%64).toNat:=G;rw [G,D,Gc];have j:(t%64).toNat<=63:=JZ;generalize hk:(t%64).toNat=k at*
 have g:=Xt k;have y:=c2X j;have A:=b2E (k:=k) JZ;unfold aZ at L;rw [wA _ g,wA _ g];rcases ho with rfl|rfl|rfl
 .rw [if_pos rfl];unfold uK
  rw [if_pos rfl];split
  .rename_i i;obtain rfl:t=c:=JZ;rw [hk];split
   .rename_i l;exact e3V g y h1 h2 l.1 l.2
   .exact gM _ (bZ _)
  .exact gM _ (bZ _)
 .rw [if_neg KA,if_pos rfl];unfold uK
  rw [if_neg KA,if_neg KA];split
  .rename_i i;obtain rfl:t=c:=JZ;split
   .rename_i R;have r:k=0:=JZ;subst r;rw [Int.pow_zero,Int.ediv_one,By];unfold jS;simp only;omega
   .rename_i R;split
    .rw [hk,wA _ g,wA _ g];have e:s%18446744073709551616=s:=JZ;rw [e];have q:=(uE (s:=s) g).1 JZ;rw [kM (by unfold aZ;omega)];exact⟨uD g h1,uD g h2⟩
    .have m:(64-t%64).toNat=64-k:=JZ;rw [m];have X:=Xt (64-k);have K:=c2X (k:=64-k) JZ;have Y:s%18446744073709551616/2^k<2^ (64-k):=Int.ediv_lt_of_lt_mul g (by rw [A];omega);have O:0<=s%18446744073709551616/2^k:=IZ JZ JZ;generalize s%18446744073709551616/2^k=u at*
     generalize(2:Int) ^ (64-k)=v at*
     rw [By,By,By];unfold jS;simp only;omega
  .split
   .have e:s%18446744073709551616=s:=JZ;rw [e];have q:=(uE (s:=s) g).1 JZ;rw [kM (by unfold aZ;omega)];unfold jS;simp only;omega
   .exact gM _ (bZ _)
 .rw [if_neg KA,if_neg KA,if_pos rfl];unfold uK
  rw [if_neg KA,if_pos rfl];split
  .rename_i i;obtain rfl:t=c:=JZ;rw [hk,wA _ g,wA _ g];exact⟨uD g h1,uD g h2⟩
  .have q:=uE (s:=s) g;unfold jS;simp only
   rcases FL s 0 with z|z
   .have:=q.2 z;omega
   .have:=q.1 z;omega
theorem d9B{o a b c d s t:Int}(ho:15<=o/\o<=19)(h1:a<=s)(h2:s<=b)(h3:c<=t)(h4:t<=d)(i:aZ s)(j:aZ t):
  jS (G3 o a b c d) (A8 o s t):=by
 have g:o=15\/o=16\/o=17\/o=18\/o=19:=JZ;unfold aZ at i j;unfold A8 G3 Y1 jS iS nU
 rw [Gc,Gc];rcases g with rfl|rfl|rfl|rfl|rfl<;>simp only [Int.reduceEq,if_false,if_true,beq_iff_eq,bne_iff_ne,decide_eq_true_eq]<;>grind
theorem d7I{o a b c d s t:Int}(ho:4<=o/\o<=19)(h1:a<=s)(h2:s<=b)(h3:c<=t)(h4:t<=d)(l:aZ a)(j:aZ b)(r:aZ c)(hd:aZ d):
  jS (mI o a b c d) (A1 o s t):=by
 have g:aZ s:=by unfold aZ at*;omega
 have m:aZ t:=by unfold aZ at*;omega
 unfold mI
 rw [if_neg JZ];split
 .rename_i h;obtain rfl:s=a:=JZ;obtain rfl:t=c:=JZ;exact⟨DX _,DX _⟩
 .have i:o=4\/o=5\/o=6\/o=7\/o=8\/ (o=9\/o=10\/o=11) \/ (o=12\/o=13\/o=14) \/15<=o:=JZ;rcases i with rfl|rfl|rfl|rfl|rfl|h|h|h
  .rw [if_pos rfl];exact d7D h1 h2 h3 h4
  .rw [if_neg KA,if_pos rfl];exact e3X h1 h2 h3 h4
  .rw [if_neg KA,if_neg KA,if_pos rfl];exact e1D h1 h2 h3 h4
  .rw [if_neg KA,if_neg KA,if_neg KA,if_pos rfl];exact d9D h1 h2 h3 h4 g
  .rw [if_neg KA,if_neg KA,if_neg KA,if_neg KA,if_pos rfl];exact e2G h1 h2 h3 h4 g
  .rw [if_neg JZ,if_neg JZ,if_neg JZ,if_neg JZ,if_neg JZ,if_pos h];have:=d7J h h1 h2 h3 h4 j.2 hd.2;unfold A1
   rw [if_neg JZ,if_neg JZ,if_neg JZ,if_neg JZ,if_neg JZ];rcases h with rfl|rfl|rfl<;>exact this
  .rw [if_neg JZ,if_neg JZ,if_neg JZ,if_neg JZ,if_neg JZ,if_neg JZ,if_pos h];unfold A1
   rw [if_neg JZ,if_neg JZ,if_neg JZ,if_neg JZ,if_neg JZ,if_neg JZ,if_neg JZ,if_neg JZ];exact f1I h h1 h2 h3 h4 g j.2 l.1
  .rw [if_neg JZ,if_neg JZ,if_neg JZ,if_neg JZ,if_neg JZ,if_neg JZ,if_neg JZ];unfold A1
   rw [if_neg JZ,if_neg JZ,if_neg JZ,if_neg JZ,if_neg JZ,if_neg JZ,if_neg JZ,if_neg JZ];exact d9B ⟨h,ho.2⟩ h1 h2 h3 h4 g m
theorem Qx{a:Int}(h:aZ a):Vo a= -1-a:=by
 unfold aZ at h;unfold Vo
 have e:IntKind.i64.bits=64:=rfl;have g:(if IntKind.i64.signed=true then(-1:Int)else IntKind.i64.max)= -1:=rfl;rw [g,e];have:(BitVec.ofInt 64 (-1) ^^^BitVec.ofInt 64 a)=BitVec.ofInt 64 (-1-a):=by
  have h1:BitVec.ofInt 64 (-1)=BitVec.allOnes 64:=KA;rw [h1,BitVec.allOnes_xor];apply BitVec.eq_of_toNat_eq;rw [BitVec.toNat_not,BitVec.toNat_ofInt,BitVec.toNat_ofInt];omega
 rw [this,BitVec.toNat_ofInt,By];omega
theorem f1S{o a b s:Int}(ho:o=20\/o=21)(h1:a<=s)(h2:s<=b)(g:aZ a)(i:aZ b):jS (Bc o a b) (Yq o s):=by
 have j:aZ s:=by unfold aZ at*;omega
 unfold Bc
 rw [if_neg JZ];split
 .obtain rfl:s=a:=JZ;exact⟨DX _,DX _⟩
 .rcases ho with rfl|rfl
  .rw [if_neg KA];unfold Yq
   rw [if_pos rfl];split
   .exact gM _ (bZ _)
   .unfold aZ dH at*
    rw [By,By,By];unfold jS;simp only;omega
  .rw [if_pos rfl];unfold Yq
   rw [if_neg KA,if_pos rfl,Qx j,Qx g,Qx i];unfold jS;simp only;omega
end Go.M13
end
section
namespace Go.M15
def bE(n:Int):Prop:= -9223372036854775808<=n/\n<=9223372036854775807
instance (n:Int):Decidable (bE n):=inferInstanceAs (Decidable (_/\_))
def ar(op:Int):Int:=
 if op=1\/op=2\/op=3\/op=26 then 0
 else if op=20\/op=21\/op=24\/op=25 then 1
 else if(4<=op/\op<=19) \/op=23\/op=27\/op=29 then 2
 else if op=22\/op=28 then 3
 else if op=30\/op=31 then-1 else 0
def vP(op:Int):Bool:=decide (1<=op/\op<=31)
def Ye(op:Int):Int:=if op=27\/op=28\/op=29 then 2 else 1
def vJ(op k:Int):Int:=if k=0/\(Ye op=2\/op=23\/op=24)then 2 else 1
end Go.M15
namespace Go.Pv
theorem aC{h:Heap}{id:Nat}{cs:Y14}{K:Y14->Prop}(e:h.get id= .cells cs)(hk:K cs):aT h id K:=by
 unfold aT;rw [e];exact hk
theorem bB{h:Heap}{id m:Nat}{K:Nat->Prop}(e:h.get id= .tip m)(hk:K m):lL h id K:=by
 unfold lL;rw [e];exact hk
theorem b1M{sz:Nat}{e n:Nat}{cs r:Y14}{K:Y10->Nat->Nat->Y14->Prop}(hk:K N e n cs):bM sz (.vslice N e n sz cs::r) 0 K:=by
 unfold bM
 simpa using hk
theorem aH{h:Heap}{id:Nat}{x:IObj} :(h.set id x).get id=x:=by rw [Heap.get_set,if_pos rfl]
theorem aG{h:Heap}{id j:Nat}{x:IObj}(g:j≠id):(h.set id x).get j=h.get j:=by rw [Heap.get_set,if_neg g]
theorem aW{h:Heap}{x:IObj} :(h.push x).get h.next=x:=by rw [Heap.get_push,if_pos rfl]
theorem aO{h:Heap}{j:Nat}{x:IObj}(g:j<h.next):(h.push x).get j=h.get j:=by rw [Heap.get_push,if_neg JZ]
def HF(id:Nat)(h h':Heap):Prop:=h.next<=h'.next/\∀j,j<h.next->j≠id->h'.get j=h.get j
theorem HF.refl{id:Nat}{h:Heap} :HF id h h:=⟨AF _,λ_ _ _=>rfl⟩
theorem HF.trans{id:Nat}{a b c:Heap}(x:HF id a b)(y:HF id b c):HF id a c:=by
 grind [HF,CG,AU]
theorem HF.set{id:Nat}{h:Heap}{x:IObj} :HF id h (h.set id x):=⟨AF _,λj _ g=>aG g⟩
theorem HF.push{id:Nat}{h:Heap}{x:IObj} :HF id h (h.push x):=⟨DM _,λj g _=>aO g⟩
end Go.Pv
namespace Go.M15
open Go.Pv
theorem Y3(n:Int):bE (IntKind.i64.wrap n):=by
 unfold bE
 rw [IntKind.wrap_i64];omega
def RD(h:Heap)(id:Nat):Prop:=id<h.next/\∃io e lp,∃l:Y12,(∀x∈l,bE x)/\h.get id= .cells [.vslice io e l.length 1 (l.map (IV.int .i64)),.int .i64 lp]
end Go.M15
namespace Go.Pv
open Go.M15
end Go.Pv
end
section
namespace Go.M15
open Go.Pv
def wM(op:Int):Bool:=decide (op=1\/ (4<=op/\op<=24) \/op=27\/op=28\/op=29)
def opk(op:Int):Y12:=
 if op=23\/op=27\/op=29 then [2,1]
 else if op=24 then [2]
 else if op=28 then [2,1,1]
 else if 4<=op/\op<=19 then [1,1]
 else if op=20\/op=21 then [1]
 else if op=22 then [1,1,1]else []
def Ab(op:Int):Int:=if op=2 then 5 else if op=3 then 255 else if op=23\/op=28 then 3 else if op=27 then 1000016 else if op=30 then 7 else if op=31\/op=25 then 15 else-1
def jQ(op n:Int):Bool:=decide (op=1\/ (op≠1/\Ab op<0/\n=0) \/ (op≠1/\¬Ab op<0/\0<=n/\n<=Ab op/\(op≠27\/0<n)))
theorem b1R{op:Int}(h:op=1\/ (4<=op/\op<=24) \/op=27\/op=28\/op=29):((op=23\/op=28)/\Ab op=3) \/ (op=27/\Ab op=1000016) \/ (op≠23/\op≠28/\op≠27/\Ab op= -1):=by
 unfold Ab
 repeat' split
 all_goals omega
theorem Sn{op:Int}(h:wM op=true):((opk op).length:Int)=ar op:=by
 grind [wM,opk,ar]
theorem e1W{op:Int}(h:wM op=true){i:Nat}(g:i< (opk op).length):vJ op i=(opk op)[i]:=by
 have l:=Sn h;have h3:(opk op).length<=3:=by unfold opk; (repeat' split)<;>simp
 unfold wM at h;rw [decide_eq_true_eq]at h;have j:i=0\/i=1\/i=2:=JZ
 revert g
 unfold opk vJ Ye
 rcases j with rfl|rfl|rfl
 all_goals
  repeat' split
  all_goals intro g
  all_goals first|rfl| (exfalso;omega)| (simp at g)| (exfalso;simp at g;omega)
end Go.M15
namespace Go.Pv
theorem Ot(n:Nat):fY n [.int .i64 0]=(List.replicate n (0:Int)).map (IV.int .i64):=by
 induction n with
 |zero=>rfl
 |succ n ih=>simp [fY,ih,FW]
end Go.Pv
end
section
namespace Go.M15
open Go.Pv
end Go.M15
namespace Go.Pv
open Go.M15
theorem c0J{sz:Nat}{cs:Y14}{A:Prop}{K:Nat->Nat->Nat->Y14->Prop}(e:cs[i]?=some .nilslice)(g:A):H0 sz cs i A K:=by
 unfold H0;rw [e];exact g
theorem Se{sz:Nat}{cs:Y14}{A:Prop}{K:Nat->Nat->Nat->Y14->Prop}{i:Nat}{a n:Nat}{c:Y14}(e:cs[j]?=some (.vslice (some i) a n sz c))(hk:K i a n c):H0 sz cs j A K:=by
 unfold H0;rw [e];simpa using hk
theorem Wg{sz:Nat}{cs:Y14}{A:Prop}{K:Nat->Nat->Nat->Prop}(e:cs[i]?=some .nilslice)(g:A):jR sz cs i A K:=by
 unfold jR;rw [e];exact g
theorem kT{sz:Nat}{cs:Y14}{A:Prop}{K:Nat->Nat->Nat->Prop}{i a n:Nat}(e:cs[j]?=some (.hslice i a n sz))(hk:K i a n):jR sz cs j A K:=by
 unfold jR;rw [e];simpa using hk
theorem aR{k:IntKind}{cs:Y14}{K:Int->Prop}{n:Int}(e:cs[i]?=some (.int k n))(hk:K n):aN k cs i K:=by
 unfold aN;rw [e];simpa using hk
end Go.Pv
namespace Go.M15
open Go.Pv
structure Nd where
 op:Int
 im:Int
 ks:Y12
 deriving DecidableEq,Inhabited
abbrev _root_.Y15:=List Nd
def okN(n:Nd):Prop:=bE n.op/\bE n.im/\∀k∈n.ks,bE k
end Go.M15
namespace Go.Pv
open Go.M15
def cN(n:Nd):Y14:=[.int .i64 n.op,.int .i64 n.im,.vslice none 0 n.ks.length 1 (n.ks.map (IV.int .i64))]
theorem bX: ∀{l:Y15},aQ (l.flatMap cN)=true
 | []=>rfl
 |x::r=>by
  rw [BF,bF,bX,AN];simp only [cN,aQ,aY,bL,AN]
theorem pD{l:Y15}{i j:Nat}(h:i<l.length)(g:j<3):(l.flatMap cN)[i*3+j]?=(cN l[i])[j]?:=by
 induction l generalizing i with
 |nil=>simp at h
 |cons x r ih=>
  cases i with
  |zero=>
   rw [BF,FK,AY,BM (by exact g)];rfl
  |succ i=>
   rw [BF,BC (by show 3<=_;omega),show(i+1)*3+j- (cN x).length=i*3+j by show(i+1)*3+j-3=_;omega];exact ih (by simpa using h)
theorem uM{l:Y15}{i o:Nat}{K:Int->Int->Y10->Nat->Nat->Y14->Prop}(h:i<l.length)(ho:o=i*3)(hk:K l[i].op l[i].im none 0 l[i].ks.length (l[i].ks.map (IV.int .i64))):
  aN .i64 (l.flatMap cN) o λa=>aN .i64 (l.flatMap cN) (o+1) λb=>bM 1 (l.flatMap cN) (o+1+1) λp q r s=>K a b p q r s:=by
 subst ho;have e0:=pD (j:=0) h JZ;have g:=pD (j:=1) h JZ;have m:=pD (j:=2) h JZ;unfold aN bM
 simp only [HC]at e0;simp only [EY,Nat.reduceAdd,e0,g,m];exact hk
end Go.Pv
namespace Go.Pv
theorem mT{cs:Y14}{g id:Nat}{K:Nat->Prop}(e:cs[g]?=some (.map id))(hk:K id):Bd cs g K:=by
 unfold Bd;rw [e];exact hk
theorem lP{sz:Nat}{cs:Y14}{K:Y10->Nat->Nat->Y14->Prop}{i:Y10}{a n:Nat}{c:Y14}(e:cs[j]?=some (.vslice i a n sz c))(hk:K i a n c):bM sz cs j K:=by
 unfold bM;rw [e];simpa using hk
theorem fL{h:Heap}{id:Nat}{d:TypeDesc}{g v:IV}{i:List (IV×IV)}{K:Y14->Prop}{A:Prop}(e:h.get id= .map i)(f:iG d g i=some (some v))(hk:K [v]):kW h id d g K A:=by
 unfold kW;rw [e];simp only [f];exact hk
theorem kX{h:Heap}{id:Nat}{d:TypeDesc}{g:List (IV×IV)}{K:Y14->Prop}{A:Prop}(e:h.get id= .map g)(f:iG d s g=some none)(hk:A):kW h id d s K A:=by
 unfold kW;rw [e];simp only [f];exact hk
theorem iT{h:Heap}{id:Nat}{d:TypeDesc}{g v:IV}{i es':List (IV×IV)}{K:List (IV×IV)->Prop}(e:h.get id= .map i)(f:sO d g v i=some es')(hk:K es'):wK h id d g v K:=by
 unfold wK;rw [e];simp only [f];exact hk
end Go.Pv
namespace Go.M15
open Go.Pv
def gN(op g:Int)(k:Y12):Int:=
 if vP op=false\/ (k.length:Int)≠ar op\/jQ op g=false then 0
 else if op=3 then(if g%16=0 then 2 else 1)
 else if op=26 then 2
 else if op=22 then(if k.getD 0 0≠1\/k.getD 1 0≠k.getD 2 0\/k.getD 1 0=3 then 0 else k.getD 1 0)
 else if op=23 then(if k=[2,1]then 1 else 0)
 else if op=24 then(if k=[2]then 1 else 0)
 else if op=27\/op=29 then(if k=[2,1]then 2 else 0)
 else if op=28 then(if k=[2,1,1]then 2 else 0)
 else if k.all (λx=>decide (x=1))=true then 1 else 0
def dY(g:Y12)(q:Int):Bool:=decide (0<=q) && (decide (q<g.length) &&decide (g.getD q.toNat 0≠0))
def Pa(g:Y12)(n:Nd):Int:=if n.ks.all (dY g)=true then gN n.op n.im (n.ks.map λq=>g.getD q.toNat 0)else 0
def iY:Y12->Y15->Y12
 |out,[]=>out
 |out,n::r=>iY (out++ [Pa out n]) r
def bU(l:Y15):Y12:=iY [] l
theorem Ai(n:Nd): ∀(l:Y15)(g:Y12),iY g (l++ [n])=iY g l++ [Pa (iY g l) n]
 | [],g=>rfl
 |x::l,g=>by
  rw [CV,iY,iY,Ai n l]
theorem Yf(l:Y15)(n:Nd):bU (l++ [n])=bU l++ [Pa (bU l) n]:=Ai n l []
theorem Fs: ∀(l:Y15)(g:Y12),(iY g l).length=g.length+l.length
 | [],g=>rfl
 |x::l,g=>by
  rw [iY,Fs l];simp only [AI,AS,BL];omega
theorem Fp(l:Y15):(bU l).length=l.length:=by unfold bU;rw [Fs];simp
theorem Ft: ∀(l:Y15)(g:Y12),g<+:iY g l
 | [],g=>ES _
 |x::l,g=>(DV _ _).trans (Ft l _)
theorem Fq: ∀(l r:Y15)(g:Y12),iY g (l++r)=iY (iY g l) r
 | [],r,g=>rfl
 |x::l,r,g=>by rw [CV,iY,iY,Fq l r]
theorem a4N{l y:Y15}(h:l<+:y):bU l<+:bU y:=by
 obtain⟨r,rfl⟩:=h;unfold bU
 rw [Fq];exact Ft _ _
theorem I8{a b:Y12}(h:a<+:b){i:Nat}(g:i<a.length):b.getD i 0=a.getD i 0:=by
 obtain⟨r,rfl⟩:=h;simp only [AH,BM g]
def SO(l:Y15)(i id:Nat)(h:Heap):Prop:=(0<i/\i<=l.length)/\h.get id= .tip i/\id<h.next
def SK(k:Y12)(id g:Nat)(h:Heap):Prop:=0<k.length/\h.get g= .tip k.length/\g<h.next/\g≠id
def eS(l:Y15)(i j:Nat):Nat:=match l[i]? with
 |some n=>n.ks.length-j
 |none=>0
theorem fP{l:Y15}{i j:Nat}(h:i<l.length):eS l i j=l[i].ks.length-j:=by
 unfold eS
 rw [AB h]
theorem mR{q:Int}(h:q<0):dY K q=false:=by
 unfold dY
 rw [decide_eq_false JZ,CN]
theorem mQ{q:Int}(h:(K.length:Int)<=q):dY K q=false:=by
 simp_all [dY,CN,EQ]
theorem mS{q:Int}(h:q.toNat<K.length)(g:K[q.toNat]=0):dY K q=false:=by
 have e:K.getD q.toNat 0=0:=by rw [AH,AB h];exact g
 unfold dY
 rw [e];simp
theorem lC{q:Int}(h0:0<=q)(h:q.toNat<K.length)(g:K[q.toNat]≠0):dY K q=true/\K.getD q.toNat 0=K[q.toNat]:=by
 have e:K.getD q.toNat 0=K[q.toNat]:=by rw [AH,AB h];rfl
 unfold dY
 rw [e];refine⟨?_,rfl⟩;simp only [AE,decide_eq_true_eq];exact⟨h0,JZ,g⟩
theorem Ny{op g:Int}{k:Y12}(h:op≠25/\op≠30/\op≠31):vP op=true->(k.length:Int)=ar op->jQ op g=true->gN op g k=(if op=3 then(if g%16=0 then 2 else 1)else if op=26 then 2 else if op=22 then(if k.getD 0 0≠1\/k.getD 1 0≠k.getD 2 0\/k.getD 1 0=3 then 0 else k.getD 1 0)
  else if op=23 then(if k=[2,1]then 1 else 0)else if op=24 then(if k=[2]then 1 else 0)else if op=27\/op=29 then(if k=[2,1]then 2 else 0)else if op=28 then(if k=[2,1,1]then 2 else 0)else if k.all (λx=>decide (x=1))=true then 1 else 0):=by
 intro h1 h2 h3;unfold gN
 rw [if_neg (by simp [h1,h2,h3])]
def WFN(l:Y15):Prop:= ∀s∈bU l,s≠0
theorem b1X{op g:Int}(ho:wM op=true)(i:jQ op g=true):gN op g (opk op)=Ye op:=by
 grind [Sn,wM,vP,gN,jQ,opk,Ye]
def Nk:Y15:=[⟨2,0,[]⟩,⟨2,1,[]⟩,⟨26,0,[]⟩]
def NW(i:Nat)(x:Y15):Prop:=(3<=x.length/\x.length<=3+i)/\(∀n∈x,okN n/\n.ks.length<=3/\(n.op≠25/\n.op≠30/\n.op≠31))/\WFN x/\(Nk<+:x/\x.Nodup/\∀n∈x,n.op≠3)
def OI(op g:Int):Prop:=wM op=true/\bE g/\(op=1\/g=0)
def KS(x:Y15)(op:Int)(ks:Y12):Prop:=(ks.length:Int)<=ar op/\∀(i:Nat)(k:Int),ks[i]?=some k->0<=k/\k<x.length/\(bU x).getD k.toNat 0=vJ op i
def FN(x:Y15)(op g:Int)(ks:Y12):Prop:=wM op=true/\jQ op g=true/\bE g/\KS x op ks/\(ks.length:Int)=ar op
theorem NW.init:NW 0 Nk:=by
 refine⟨KA,?_,?_,ES _,KA,KA⟩
 .intro n g;simp only [Nk,CD,DW,or_false]at g;rcases g with rfl|rfl|rfl<;>refine⟨⟨?_,?_,?_⟩,?_,?_⟩<;>simp [bE]
 .have:bU Nk=[1,1,2]:=rfl;intro s i;rw [this]at i;simp at i;omega
theorem NW.mono{i j:Nat}{x:Y15}(h:NW i x)(g:i<=j):NW j x:=⟨⟨h.1.1,by have:=h.1.2;omega⟩,h.2⟩
theorem e7I(op:Int): -1<=ar op/\ar op<=3:=by unfold ar;repeat' split<;>omega
theorem a3V{op:Int}(h:wM op=true):1<=op/\op<=29/\op≠25/\0<=ar op:=by
 have:=Sn h;unfold wM at h;rw [decide_eq_true_eq]at h;omega
theorem NW.app{i:Nat}{x:Y15}{op r:Int}{ks:Y12}(h:NW i x)(X:x.length<=1000000)(hm:(⟨op,r,ks⟩:Nd) ∉x)(f:FN x op r ks):NW (i+1) (x++ [⟨op,r,ks⟩]):=by
 obtain⟨h1,h2,h3,h4⟩:=h;obtain⟨l,K,L,⟨_,u⟩,V⟩:=f;have z:=a3V l;have O:=e7I op;have D:=Sn l;refine⟨by simp only [AI,AS,BL];omega,?_,?_,h4.1.trans (DV _ _),List.nodup_append.2 ⟨h4.2.1,KB,λa R b z e=>hm (by rw [BU]at z;rw [<-z,<-e];exact R)⟩,λn g=>by
  rcases BZ.1 g with g|g
  .exact h4.2.2 n g
  .rw [BU.1 g];show op≠3;unfold wM at l;rw [decide_eq_true_eq]at l;omega⟩
 .intro n g;rcases BZ.1 g with g|g
  .exact h2 n g
  .rw [BU.1 g];refine⟨⟨by show bE op;unfold bE;omega,L,λk hk=>?_⟩,by show ks.length<=3;omega,by show op≠25/\op≠30/\op≠31;omega⟩;obtain⟨j,A,rfl⟩:=DK.1 hk;have:=u j _ (AB A);unfold bE
   omega
 .intro s m;rw [Yf]at m;rcases BZ.1 m with m|m
  .exact h3 s m
  .rw [BU.1 m];unfold Pa
   rw [if_pos]
   .have e:(ks.map λq=>(bU x).getD q.toNat 0)=opk op:=by
     refine DE λj=>?_
     rcases BK j ks.length with q|q
     .have G:j< (opk op).length:=JZ;have:=u j _ (AB q);rw [BJ,AB q,AB G,<-e1W l G,<-this.2.2];rfl
     .rw [BP (by simpa using q),BP JZ]
    show gN op r _≠0;rw [e,b1X l K];unfold Ye
    split<;>decide
   .rw [CF];intro q T;obtain⟨j,A,rfl⟩:=DK.1 T;have:=u j _ (AB A);have y:vJ op j≠0:=by unfold vJ;split<;>decide
    unfold dY
    simp only [AE,decide_eq_true_eq];rw [Fp];exact⟨this.1,this.2.1,by rw [this.2.2];exact y⟩
theorem NW.has{i:Nat}{x:Y15}(h:NW i x)(op k:Int):vJ op k∈bU x:=by
 obtain⟨r,g⟩:=a4N h.2.2.2.1;have:bU Nk=[1,1,2]:=rfl;rw [<-g,this];unfold vJ
 split<;>simp
theorem NW.sorts{i:Nat}{x:Y15}(h:NW i x): ∀n∈x,n.ks.length<=1000000/\n.op≠25/\n.op≠30/\n.op≠31:=λn g=>by
 have:=h.2.1 n g;exact⟨JZ,this.2.2⟩
theorem KS.nil{x:Y15}{op:Int}(h:wM op=true):KS x op []:=⟨(a3V h).2.2.2,λi k h=>by simp at h⟩
theorem KS.snoc{x:Y15}{op:Int}{ks:Y12}{q:Int}(h:KS x op ks)(m:(ks.length:Int)<ar op)(l:0<=q/\q<x.length/\(bU x).getD q.toNat 0=vJ op ks.length):KS x op (ks++ [q]):=by
 refine⟨by simp only [AI,AS,BL];omega,λi k g=>?_⟩;rcases BK i ks.length with p|p
 .rw [BM p]at g;exact h.2 i k g
 .rw [BC p]at g;rcases BK (i-ks.length) 1 with j|j
  .obtain rfl:i=ks.length:=JZ;simp at g;subst g;exact l
  .rw [BP (by simpa using j)]at g
   cases g
def OH(x:Y15)(id:Nat)(g:Heap):Prop:=g.get id= .tip (x.length*3)/\id<g.next
def KH(ks:Y12)(id:Nat)(g:Heap):Prop:=0<ks.length/\g.get id= .tip ks.length/\id<g.next
theorem OH.push{x:Y15}{id:Nat}{g:Heap}{y:IObj}(h:OH x id g):OH x id (g.push y):=⟨by rw [aO h.2];exact h.1,BO h.2⟩
theorem OH.hf{x:Y15}{id rd:Nat}{g g2:Heap}(h:OH x id g)(hf:HF rd g g2)(i:id≠rd):OH x id g2:=⟨by rw [hf.2 id h.2 i];exact h.1,AU h.2 hf.1⟩
theorem KH.hf{x:Y12}{id rd:Nat}{g g2:Heap}(h:KH x id g)(hf:HF rd g g2)(i:id≠rd):KH x id g2:=⟨h.1,by rw [hf.2 id h.2.2 i];exact h.2.1,AU h.2.2 hf.1⟩
theorem OI.fn{x:Y15}{op i g:Int}{ks:Y12}(h:OI op i)(hk:KS x op ks)(j:(ks.length:Int)=ar op)(m:(op≠23/\op≠27/\op≠28/\g=i) \/ ((op=23\/op=28)/\0<=g/\g<=1) \/ (op=27/\1<=g/\g<=2)):FN x op g ks:=by
 obtain⟨h1,h2,h3⟩:=h;have l:=a3V h1;refine⟨h1,?_,?_,hk,j⟩
 .unfold wM at h1;rw [decide_eq_true_eq]at h1;have hm:=b1R h1;unfold jQ
  rw [decide_eq_true_eq];omega
 .unfold bE at h2⊢;omega
structure ND where
 i:Nat
 x:Y15
 io:Y10
 e:Nat
 op:Int
 im:Int
 ks:Y12
 kv:IV
 rd:Nat
 g:Heap
def OV(x:ND):Prop:=NW x.i x.x/\((x.io=none/\x.e=1) \/ ∃id,x.io=some id/\x.e=x.x.length*3/\OH x.x id x.g)
def OR(x:ND):Prop:=OV x/\RD x.g x.rd/\∀id,x.io=some id->id≠x.rd
def KV(x:ND):Prop:=KS x.x x.op x.ks/\((x.kv= .nilslice/\x.ks=[]) \/ ∃id,x.kv= .vslice (some id) x.ks.length x.ks.length 1 (x.ks.map (IV.int .i64))/\KH x.ks id x.g/\id≠x.rd/\∀j,x.io=some j->j≠id)
theorem RD.hf{h h2:Heap}{id j:Nat}(r:RD h id)(hf:HF j h h2)(g:id≠j):RD h2 id:=by
 grind [RD,HF,AU]
theorem b4M{h:Heap}{s:IV}{ks:Y12}{q:Int}{K:Nat->Nat->Nat->Y14->Heap->Prop}
  (hs:(s= .nilslice/\ks=[]) \/ ∃id,s= .vslice (some id) ks.length ks.length 1 (ks.map (IV.int .i64))/\KH ks id h) (hl:ks.length<=1000000)
  (hk: ∀id h2,KH (ks++ [q]) id h2->HF id h h2->(h.next<=id\/s= .vslice (some id) ks.length ks.length 1 (ks.map (IV.int .i64)))->K id (ks++ [q]).length (ks++ [q]).length ((ks++ [q]).map (IV.int .i64)) h2):
  dX h 1 8 s 1 [.int .i64 q] K:=by
 rcases hs with⟨rfl,rfl⟩| ⟨id,rfl,j,g,i⟩
 .exact⟨KA,hk h.next (h.push (.tip 1)) ⟨Nat.one_pos,aW,AQ _⟩ HF.push (.inl (AF _))⟩
 .have:=hk id (h.set id (.tip (ks.length+1))) ⟨KB,by rw [aH];simp,i⟩ HF.set (.inr rfl);refine⟨⟨rfl,JZ,g⟩,?_⟩;simpa using this
theorem a6D{g:Heap}{e:Nat}{x:Y15}{n:Nd}{K:Nat->Nat->Nat->Y14->Heap->Prop}
  (hs:(N=none/\e=1) \/ ∃id,N=some id/\e=x.length*3/\OH x id g) (hl:x.length<=1000000)
  (hk: ∀id h2,OH (x++ [n]) id h2->K id ((x++ [n]).length*3) (x++ [n]).length ((x++ [n]).flatMap cN) h2):
  dX g 3 40 (.vslice N e x.length 3 (x.flatMap cN)) 1 (cN n) K:=by
 rcases hs with⟨rfl,rfl⟩| ⟨id,rfl,rfl,i,j⟩
 .refine⟨⟨rfl,JZ⟩,?_⟩;have:=hk g.next (g.push (.tip ((x.length+1)*3))) ⟨by rw [aW];simp,AQ _⟩;simpa using this
 .refine⟨⟨rfl,JZ,i⟩,?_⟩;have:=hk id (g.set id (.tip (x.length*3+3))) ⟨by rw [aH];simp [ER],j⟩;simpa [ER]using this
theorem OR.mk1{x:ND}(h:OV x)(op z a b c:Int):OR ⟨x.i,x.x,x.io,x.e,op,z,[],.nilslice,x.g.next,x.g.push (.cells [.vslice none 1 3 1 [.int .i64 (IntKind.i64.wrap a),.int .i64 (IntKind.i64.wrap b),.int .i64 (IntKind.i64.wrap c)],.int .i64 0])⟩:=by
 obtain⟨h1,h2⟩:=h;refine⟨⟨h1,?_⟩,⟨AQ _,none,1,0,[IntKind.i64.wrap a,IntKind.i64.wrap b,IntKind.i64.wrap c],?_,aW⟩,?_⟩
 .rcases h2 with h2| ⟨id,l,u,m⟩
  .exact .inl h2
  .exact .inr ⟨id,l,u,m.push⟩
 .intro y r;simp only [CD,DW,or_false]at r;rcases r with rfl|rfl|rfl<;>exact Y3 _
 .intro id j;rcases h2 with h2| ⟨Vm,l,u,m⟩
  .rw [show x.io=none from h2.1]at j
   cases j
  .have j:x.io=some id:=j;rw [l]at j
   cases j
   exact ET m.2
end Go.M15
end
end
