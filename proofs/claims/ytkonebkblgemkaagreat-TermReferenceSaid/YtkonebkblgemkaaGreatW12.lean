/-
  Texts of this proof, one after the other.
  Conditions: none.
-/
import Derived.Test.YtkonebkblgemkaaGreatW11
set_option linter.unusedVariables false
set_option linter.unusedSimpArgs false
set_option maxRecDepth 100000
set_option maxHeartbeats 4000000
noncomputable section
variable{i j m b:Nat}{x y z u v:Int}{h g:Go.Pv.Heap}{c d l:List Go.Pv.IV}{A B C:List Go.M15.Nd}{K L:Y12}{p s t:Go.Pv.IV}{F:List Go.M10.E}{D:Go.Pv.Meta}{V W:List Go.Value}{T U:Go.TypeId}{o:Bool}{X Y:Go.Value}{G:Go.M10.BSt}{O:Go.Oper}{N:Y10}{H:Array Go.Value}
section
namespace Go.Proofs.YtkonebkblgemkaaGreat
open Go.Pv Go.M15 Go.M10 Go.M29
def Z6(xs:Y14)(h:Heap)(K:KT):Prop:=match xs with
 | [x,y]=>Mr [x,y] h K
 |_=>False
theorem b7C: ∀xs h Q,Z6 xs h Q->aO env 41 xs h Q:=by
 intro xs h Q g;unfold Z6 at g;split at g
 ·exact a5X _ _ _ g
 ·exact g.elim
def Uj:=aT 41 Z6 Su
theorem a8M:aP env Uj:=aF b7C (a4C)
def Z7(xs:Y14)(h:Heap)(K:KT):Prop:=match xs with
 | [x,y]=>zR [x,y] h K
 |_=>False
theorem b7D: ∀xs h Q,Z7 xs h Q->aO env 49 xs h Q:=by
 intro xs h Q g;unfold Z7 at g;split at g
 ·exact X2 _ _ _ g
 ·exact g.elim
def Uk:=aT 49 Z7 Uj
theorem a8N:aP env Uk:=aF b7D (a8M)
def My(xs:Y14)(h:Heap)(K:KT):Prop:=match xs with
 | [x,y]=>vL [x,y] h K
 |_=>False
theorem c7P: ∀xs h Q,My xs h Q->aO env 50 xs h Q:=by
 intro xs h Q g;unfold My at g;split at g
 ·exact Y9 _ _ _ g
 ·exact g.elim
def Mz:=aT 50 My Uk
theorem Ul:aP env Mz:=aF c7P (a8N)
def Na(xs:Y14)(h:Heap)(K:KT):Prop:=match xs with
 | [.ptr id 0,.int .i64 q]=> ∃(s:Y11)(a:Nat)(y:Y15)(io:Y10)(p:Nat),q=(p:Int)/\fY h id s a y io/\∀h2:Heap,rX h2 id s p io->dZ id id io h h2->K (.tuple []) h2
 |_=>False
theorem c7Q(id:Nat)(q:Int)(h:Heap)(Q:KT):dF (aS Mz) env 48 dL bS bS [.ptr id 0,.int .i64 q] h Q=(
 aE h id fun r0=>aI .i64 r0 3 fun i=>aJ (i==0) (aE h id fun g=>aD (Nat.ble 5 g.length) (Q (.tuple []) (h.set id (IObj.cells (List.take 3 g++ [iI 2,iI q]++List.drop 5 g))))) (Q (.tuple []) h)):=by kernel_rfl
theorem a8O: ∀xs h Q,Na xs h Q->aO env 48 xs h Q:=by
 intro xs h Q g;unfold Na at g;split at g
 ·rename_i id q;obtain⟨s,a,y,io,p,z,j,g⟩:=g;refine aN (Ul) (c7Q id q h Q) ?_;delta iI;subst z;obtain⟨l,lv,i,u⟩:=(show fY h id s a y io from j);refine aB i (bO rfl (aC (fun _=>aB i (aA rfl (g _ (j.fail p) dZ.setId))) (fun c=>by cases c)))
 ·exact g.elim
def Nb:=aT 48 Na Mz
theorem Um:aP env Nb:=aF a8O (Ul)
def pwI(id:Nat)(s:Y11)(a:Nat)(y:Y15)(io:Y10)(h:Heap):Inv':=eY (Nat×Heap) (fun x=>[(0,.v (.ptr id 0)),(3,.v (.int .i64 (a:Int)))]) (fun _=>[]) (fun x=>x.2) (fun x=>fY x.2 id s (a+x.1) y io/\x.1<=(dI s a).length/\dZ id id io h x.2/\x.2.next=h.next) (fun x=>(dI s a).length-x.1)
def Nc(xs:Y14)(h:Heap)(K:KT):Prop:=match xs with
 | [.ptr id 0]=> ∃(s:Y11)(a:Nat)(y:Y15)(io:Y10),fY h id s a y io/\(a<=s.length/\s.length<=20000)/\∀h2:Heap,fY h2 id s (a+(dI s a).length) y io->dZ id id io h h2->h2.next=h.next->K (.str (dI s a)) h2
 |_=>False
def b7E(a:Nat):=TV.v (.int .i64 (a:Int))
abbrev a8P(a:Nat):=0<=(a:Int)
def a8Q(id:Nat):=TV.v (.ptr id 0)
theorem c7R(id:Nat)(s:Y11)(a:Nat)(y:Y15)(io:Y10)(h:Heap)(Q:KT):dF (aS Nb) env 95 dL (kR 3 (pwI id s a y io h)) bS [.ptr id 0] h Q=(
 aE h id fun r0=>aI .i64 r0 1 fun n1=>(∃(x:Nat×Heap),some (a8Q id)=some (a8Q id)/\tI n1=some (b7E a)/\h=x.2/\(fY x.2 id s (a+x.1) y io/\x.1<=List.length (dI s a)/\dZ id id io h x.2/\Heap.next x.2=h.next)/\True)/\∀(x:Nat×Heap)(b:FF),fY x.2 id s (a+x.1) y io/\x.1<=List.length (dI s a)/\dZ id id io h x.2/\Heap.next x.2=h.next->aE x.2 id fun r2=>aI .i64 r2 1 fun n3=>aE x.2 id fun r4=>bL r4 0 fun(s5:Y11)=>aJ (decide (n3< (s5.length:Int))) (aE x.2 id fun r6=>bL r6 0 fun(s7:Y11)=>aE x.2 id fun r8=>aI .i64 r8 1 fun n9=>aD (decide (0<=n9)) (gN s7 n9.toNat fun O=>aJ (O !=32) (aE x.2 id fun Y=>bL Y 0 fun(b1:Y11)=>aE x.2 id fun Z=>aI .i64 Z 1 fun z=>aD (decide (0<=z)) (gN b1 z.toNat fun T=>aJ (T !=40) (aE x.2 id fun a0=>bL a0 0 fun(b2:Y11)=>aE x.2 id fun a1=>aI .i64 a1 1 fun(A:Int)=>aD (decide (0<=A)) (gN b2 A.toNat fun V=>aJ (V !=41) (aE x.2 id fun a2=>aI .i64 a2 1 fun X=>aE x.2 id fun u=>aD (Nat.ble 2 u.length) (∃(g:Nat×Heap),some (a8Q id)=some (a8Q id)/\some (b7E a)=some (b7E a)/\Heap.set x.2 id (IObj.cells (List.take 1 u++ [iI (wW (X+1))]++List.drop 2 u))=g.2/\(fY g.2 id s (a+g.1) y io/\g.1<=List.length (dI s a)/\dZ id id io h g.2/\Heap.next g.2=h.next)/\List.length (dI s a)-g.1< (dI s a).length-x.1)) (aE x.2 id fun a3=>bL a3 0 fun(D:Y11)=>aE (x.2) id fun a4=>aI .i64 a4 1 fun i=>aD (decide (a8P a) && (decide ((a:Int)<=i) &&decide (i<=(D.length:Int)))) (Q (.str (List.take (i.toNat- (a:Int).toNat) (List.drop ((a:Int).toNat) D))) x.2)))) (aE x.2 id fun a5=>bL a5 0 fun(G:Y11)=>aE x.2 id fun a6=>aI .i64 a6 1 fun j=>aD (decide (a8P a) && (decide ((a:Int)<=j) &&decide (j<=(G.length:Int)))) (Q (.str (List.take (j.toNat- (a:Int).toNat) (List.drop ((a:Int).toNat) G))) x.2)))) (aE x.2 id fun a7=>bL a7 0 fun(K:Y11)=>aE x.2 id fun a8=>aI .i64 a8 1 fun l=>aD (decide (a8P a) && (decide ((a:Int)<=l) &&decide (l<=(K.length:Int)))) (Q (.str (List.take (l.toNat- (a:Int).toNat) (List.drop ((a:Int).toNat) K))) x.2)))) (aE x.2 id fun a9=>bL a9 0 fun(L:Y11)=>aE (x.2) id fun b0=>aI .i64 b0 1 fun p=>aD (decide (a8P a) && (decide ((a:Int)<=p) &&decide (p<=(L.length:Int)))) (Q (.str (List.take (p.toNat- (a:Int).toNat) (List.drop ((a:Int).toNat) L))) x.2))):=by kernel_rfl
theorem c7S: ∀xs h Q,Nc xs h Q->aO env 95 xs h Q:=by
 intro xs h Q D;unfold Nc at D;split at D
 ·rename_i id;obtain⟨s,a,y,io,G,hs,D⟩:=D;refine aN (Um) (c7R id s a y io h Q) ?_;delta b7E a8P a8Q tI wW iI;have A: ∀x:Nat,(x:Int).toNat=x:=AE
  obtain⟨a2,a5⟩:=hs;have hd:=zP s a;have hw:=a0U (s:=s) (a:=a);have he:=a0V s a;have a0:s.length=a+((dI s a).length+(rsA s a).length):=by
   have:=congrArg List.length hd;rw [CD,AH]at this;omega
  have O: ∀{j:Nat}(h:j< (dI s a).length),∃q:a+j<s.length,s[a+j]=(dI s a)[j]:=fun{j} h=>by
   have hq:a+j<s.length:=IM;refine⟨hq,?_⟩;have e:(s.drop a)[j]?=(dI s a++rsA s a)[j]?:=by rw [<-hd]
   rw [DQ,BD h,AA hq,AA h,AC]at e;exact e
  have V: ∀{b k:UInt8},((b.toNat:Int) !=(k.toNat:Int))=false->b=k:=fun h=>UInt8.toNat_inj.1 (Int.ofNat.inj (by rw [bne_eq_false_iff_eq]at h;exact h))
  obtain⟨Z,a6,L,a1⟩:=(show fY h id s a y io from G);refine aB L (bO rfl ⟨⟨(0,h),IR,IR,IR,⟨G,AR _,dZ.refl,rfl⟩,trivial⟩,?_⟩);rintro⟨j,g⟩ _ ⟨K,hj,hf,z⟩;have K:=(show fY g id s (a+j) y io from K);obtain⟨a3,lv,i,a4⟩:=(show fY g id s (a+j) y io from K);dsimp only at hj z⊢;have fin:j=(dI s a).length->(aE g id fun r1=>bL r1 0 fun s1=>aE g id fun r2=>aI .i64 r2 1 fun n=>aD (decide (0<=(a:Int)) && (decide ((a:Int)<=n) &&decide (n<=(s1.length:Int)))) (Q (.str ((s1.drop (a:Int).toNat).take (n.toNat- (a:Int).toNat))) g)):=fun e=>by
   subst e;refine aB i (dG rfl (aB i (bO rfl (aA (by simp;omega) ?_))));rw [A,A,hd,show a+(dI s a).length-a=(dI s a).length by omega,List.take_left']
   ·exact D g K hf z
   ·rfl
  refine aB i (bO rfl (aB i (dG rfl (dA (fun c=>?_) (fun c=>fin IM)))));have l:a+j<s.length:=IM;refine aB i (dG rfl (aB i (bO rfl (aA (by simp;omega) ?_))));rw [A];refine gV l ?_
  by_cases hjw:j< (dI s a).length
  ·obtain⟨_,e⟩:=O hjw;have u:=hw _ (AG hjw);rw [<-e]at u;refine aC (fun _=>aB i (dG rfl (aB i (bO rfl (aA (by simp;omega) ?_))))) (fun p=>absurd (V (k:=32) p) u.1);rw [A];refine gV l (aC (fun _=>aB i (dG rfl (aB i (bO rfl (aA (by simp;omega) ?_))))) (fun p=>absurd (V (k:=40) p) u.2.1));rw [A];refine gV l (aC (fun _=>aB i (bO rfl (aB i (aA rfl ⟨(j+1,_),IR,IR,IR,⟨K.adv i 1 IM,hjw,hf.trans fD.refl dZ.setId,z⟩,IS⟩)))) (fun p=>absurd (V (k:=41) p) u.2.2))
  ·obtain rfl:j=(dI s a).length:=IM;have e:(s.drop a)[(dI s a).length]?=(dI s a++rsA s a)[(dI s a).length]?:=by rw [<-hd]
   rw [DQ,BU (AJ _),EZ,AA l]at e;have T:s[a+(dI s a).length]=32\/s[a+(dI s a).length]=40\/s[a+(dI s a).length]=41:=by
    cases G:rsA s a with
    |nil=>rw [G]at e;cases e
    |cons c q=>
     rw [G,DC,AC]at e;rw [e];exact he c q G
   refine aC (fun p=>aB i (dG rfl (aB i (bO rfl (aA (by simp;omega) ?_))))) (fun p=>fin rfl);rw [A];refine gV l (aC (fun X=>aB i (dG rfl (aB i (bO rfl (aA (by simp;omega) ?_))))) (fun p=>fin rfl));rw [A];refine gV l (aC (fun Y=>?_) (fun p=>fin rfl));exfalso;simp at p X Y;rcases T with q|q|q
   ·exact p (by rw [q];rfl)
   ·exact X (by rw [q];rfl)
   ·exact Y (by rw [q];rfl)
 ·exact D.elim
def Nf:=aT 95 Nc Nb
theorem Un:aP env Nf:=aF c7S (Um)
def d3Y(id:Nat)(op im:Int)(g:IV)(n:Nd)(y:Y15)(h:Heap):Inv':=eY Nat (fun x=>[(0,.v (.ptr id 0)),(3,.l 3 0),(5,.v (.int .i64 (x:Int)))]) (fun _=>[(3,[.int .i64 op,.int .i64 im,g])]) (fun _=>h) (fun x=>x<=y.length/\∀j,j<x->y[j]?≠some n) (fun x=>y.length-x)
def Ng(xs:Y14)(h:Heap)(K:KT):Prop:=match xs with
 | [.ptr id 0,.agg [.int .i64 op,.int .i64 im,.nilslice]]=> ∃(s:Y11)(a:Nat)(y:Y15)(io:Y10),fY h id s a y io/\(qR ⟨op,im,([]:Y12)⟩/\(∀x∈y,qR x)/\(∀x∈y,x.ks.length<=1000000)/\y.length<=1000000/\(([]:Y12)).length<=1000000)/\∀(h2:Heap)(g:Y10),fY h2 id s a (cH y ⟨op,im,([]:Y12)⟩).1 g->dZ id id io h h2->fD h io g->K (.int .i64 (cH y ⟨op,im,([]:Y12)⟩).2) h2
 |_=>False
def a8R(op im:Int):=[iI op,iI im,IV.vslice none 0 0 1 []]
def b7F(id:Nat)(op im:Int)(h:Heap)(g:Y14):=(h.push (IObj.tip 3)).set id (IObj.cells (List.take 2 g++ [IV.vslice (some (h.next)) 3 1 3 (a8R op im)]++List.drop 3 g))
def b7G(id:Nat)(op im:Int)(h:Heap)(g:Y14):=(h.push (IObj.tip 3)).set id (IObj.cells (List.take 2 g++ [IV.vslice (some (h.next)) 3 1 3 (a8R op im)]++List.drop 3 g))
def b7H(id p l j:Nat)(op im:Int)(h:Heap)(i g:Y14):=(h.set p (IObj.tip (l+3))).set id (IObj.cells (List.take 2 g++ [IV.vslice (some p) (l+3) (j+1) 3 (i++(a8R op im))]++List.drop 3 g))
def b7I(id i g p:Nat)(op im:Int)(h:Heap)(l j:Y14):=(h.set i (IObj.tip (g+3))).set id (IObj.cells (List.take 2 j++ [IV.vslice (some i) (g+3) (p+1) 3 (l++(a8R op im))]++List.drop 3 j))
def a8S(op im:Int):=[iI op,iI im,IV.nilslice]
def a8T:=iI (-1)
def a8U:=TV.l 3 0
def a8V(id:Nat):=TV.v (.ptr id 0)
theorem c7T(id:Nat)(op im:Int)(s:Y11)(a:Nat)(y:Y15)(io:Y10)(h:Heap)(Q:KT):dF (aS Nf) env 96 dL (kR 3 (d3Y id op im .nilslice ⟨op,im,[]⟩ y h)) bS [.ptr id 0,.agg [.int .i64 op,.int .i64 im,.nilslice]] h Q=(
 (∃(x:Nat),some (a8V id)=some (a8V id)/\some a8U=some a8U/\tI 0=tI (x:Int)/\some (a8S op im)=some (a8S op im)/\h=h/\(x<=y.length/\∀(j:Nat),j<x->y[j]?≠some (Nd.mk op im []))/\True)/\∀(x:Nat)(b:FF),(x<=y.length/\∀(j:Nat),j<x->y[j]?≠some (Nd.mk op im []))->aE h id fun r0=>bP 3 r0 2 (aE h id fun r1=>bP 3 r1 2 (aE (h.push (IObj.tip 3)) id fun X=>aD (Nat.ble 3 X.length) (aE (b7F id op im h X) id fun r3=>bP 3 r3 2 (Q a8T (b7F id op im h X)) fun(i4 e5 l6:Nat)(c7:Y14)=>Q (.int .i64 (wW ((l6:Int)-1))) (b7F id op im h X))) fun(V T l:Nat)(G:Y14)=>cK h V fun(a5:Nat)=>aD (Nat.beq a5 T&&Nat.ble ((l+1)*40) 140737488355328) (aE (h.set V (IObj.tip (T+3))) id fun u=>aD (Nat.ble 3 u.length) (aE (b7H id V T l op im h G u) id fun(a9:Y14)=>bP 3 a9 2 (Q a8T (b7H id V T l op im h G u)) fun(c6 b9 Z:Nat)(b4:Y14)=>Q (.int .i64 (wW ((Z:Int)-1))) (b7H id V T l op im h G u)))) fun(c8 c0 a0:Nat)(b5:Y14)=>aJ (decide ((x:Int)< (a0:Int))) (aE h id fun b0=>bP 3 b0 2 False fun(c9 c1 a1:Nat)(K:Y14)=>aD (decide (0<=(x:Int)) &&decide ((x:Int)< (a1:Int))) (aI .i64 K ((x:Int).toNat*3) fun a7=>aI .i64 K ((x:Int).toNat*3+1) fun a8=>aX 1 K ((x:Int).toNat*3+1+1) fun(d0:Y10)(c2 a2:Nat)(Y:Y14)=> ∃(ks O:Y12),(a2=ks.length/\Y=List.map (IV.int .i64) ks)/\((0:Nat)=O.length/\[]=List.map (IV.int .i64) O)/\ks.length<=1000000000/\aJ (decide (Nd.mk a7 a8 ks=Nd.mk op im O)) (Q (.int .i64 (x:Int)) h) (∃(D:Nat),some (a8V id)=some (a8V id)/\some a8U=some a8U/\some (TV.v (iI (wW ((x:Int)+1))))=tI (D:Int)/\some (a8S op im)=some (a8S op im)/\h=h/\(D<=y.length/\∀(j:Nat),j<D->y[j]?≠some (Nd.mk op im []))/\y.length-D<y.length-x))) (aE h id fun b1=>bP 3 b1 2 (aE (h.push (IObj.tip 3)) id fun z=>aD (Nat.ble 3 z.length) (aE (b7G id op im h z) id fun b2=>bP 3 b2 2 (Q a8T (b7G id op im h z)) fun(d1 c3 a3:Nat)(b6:Y14)=>Q (.int .i64 (wW ((a3:Int)-1))) (b7G id op im h z))) fun(i g p:Nat)(L:Y14)=>cK h i fun(a6:Nat)=>aD (Nat.beq a6 g&&Nat.ble ((p+1)*40) 140737488355328) (aE (h.set i (IObj.tip (g+3))) id fun A=>aD (Nat.ble 3 A.length) (aE (b7I id i g p op im h L A) id fun b3=>bP 3 b3 2 (Q a8T (b7I id i g p op im h L A)) fun(d2 c5 a4:Nat)(b7:Y14)=>Q (.int .i64 (wW ((a4:Int)-1))) (b7I id i g p op im h L A))))):=by kernel_rfl
theorem a8W: ∀xs h Q,Ng xs h Q->aO env 96 xs h Q:=by
 intro xs h Q i;unfold Ng at i;split at i
 ·rename_i id op im;obtain⟨s,a,y,io,L,V,i⟩:=i;refine aN (Un) (c7T id op im s a y io h Q) ?_;delta a8R b7F b7G b7H b7I a8S a8T a8U a8V tI wW iI;have tn: ∀x:Nat,(x:Int).toNat=x:=AE
  obtain⟨hn,hy,D,Z,X⟩:=V;obtain⟨u,lv,p,A⟩:=(show fY h id s a y io from L);refine⟨⟨0,IR,IR,IR,IR,IR,⟨AR _,fun j K=>absurd K (DJ _)⟩,trivial⟩,?_⟩;rintro x _ ⟨Y,l⟩
  try dsimp only at Y l⊢
  rcases A with⟨rfl,rfl,rfl⟩| ⟨iL,rfl,rfl,t1,t2,O,t4,t5⟩
  ·refine aB p (cO rfl (aB p (cO rfl (aB ((aL u).trans p) (aA rfl (aB aH (bZ rfl ?_)))))));rw [show IntKind.i64.wrap (((1:Nat):Int)-1)=0 by decide];refine i _ (some h.next) (fY.put_nil (n:=⟨op,im,([]:Y12)⟩) (lv:= .nilslice) u) ⟨ED _,fun j G h2 _ _=>?_⟩ (.inr ⟨rfl,_,rfl,AJ _⟩);rw [aG h2,aL G]
  ·refine aB p (bZ rfl (dA (fun c=>?_) (fun c=>?_)))
   ·have g:x<y.length:=IM;refine aB p (bZ rfl (bG ⟨IM,IM⟩ (oR g (by rw [tn]) ⟨y[x].ks,([]:Y12),⟨rfl,rfl⟩,⟨rfl,rfl⟩,by have:=D _ (AG g);omega,dA (fun z=>?_) (fun z=>?_)⟩)))
    ·rw [Rn g z l]at i;exact i h _ L dZ.refl fD.refl
    ·refine⟨x+1,IR,IR,(by rw [AB _ IM];rfl),IR,IR,⟨g,fun j K=>?_⟩,IM⟩;rcases BC j x with d|d
     ·exact l j d
     ·obtain rfl:j=x:=IM;rw [AA g];exact fun q=>z (AX q)
   ·obtain rfl:x=y.length:=IM;rw [Ro l]at i;refine aB p (bZ rfl (aV t1 (aA (by simp only [AF,bK,AM,true_and];omega) (aB ((aG O.symm).trans p) (aA rfl (aB aH (bZ rfl ?_)))))));rw [show IntKind.i64.wrap (((y.length+1:Nat):Int)-1)=(y.length:Int) by rw [AB _ IM];omega];refine i _ (some iL) (fY.put_some (s:=s) (a:=a) (y:=y) (n:=⟨op,im,([]:Y12)⟩) u t2 O) ⟨AJ _,fun j G h2 _ T=>?_⟩ fD.refl;rw [aG h2,aG (fun q=>T (by rw [q]))]
 ·exact i.elim
def Nh:=aT 96 Ng Nf
theorem Uo:aP env Nh:=aF a8W (Un)
def Ni(xs:Y14)(h:Heap)(K:KT):Prop:=match xs with
 | [.ptr id 0,.agg [.int .i64 op,.int .i64 im,.vslice i2 e1 n1 1 c1]]=> ∃ks:Y12,(n1=ks.length/\c1=ks.map (IV.int .i64))/\∃(s:Y11)(a:Nat)(y:Y15)(io:Y10),fY h id s a y io/\(qR ⟨op,im,ks⟩/\(∀x∈y,qR x)/\(∀x∈y,x.ks.length<=1000000)/\y.length<=1000000/\(ks).length<=1000000)/\∀(h2:Heap)(g:Y10),fY h2 id s a (cH y ⟨op,im,ks⟩).1 g->dZ id id io h h2->fD h io g->K (.int .i64 (cH y ⟨op,im,ks⟩).2) h2
 |_=>False
def a8X(op im:Int)(ks:Y12):=[iI op,iI im,IV.vslice none 0 ks.length 1 (List.map (IV.int .i64) ks)]
def b7J(id:Nat)(op im:Int)(ks:Y12)(h:Heap)(g:Y14):=(h.push (IObj.tip 3)).set id (IObj.cells (List.take 2 g++ [IV.vslice (some (h.next)) 3 1 3 (a8X op im ks)]++List.drop 3 g))
def b7K(id:Nat)(op im:Int)(ks:Y12)(h:Heap)(g:Y14):=(h.push (IObj.tip 3)).set id (IObj.cells (List.take 2 g++ [IV.vslice (some (h.next)) 3 1 3 (a8X op im ks)]++List.drop 3 g))
def a8Y(op im:Int)(i:Y10)(g:Nat)(ks:Y12):=[iI op,iI im,IV.vslice i g ks.length 1 (List.map (IV.int .i64) ks)]
def b7L(id p l j:Nat)(op im:Int)(ks:Y12)(h:Heap)(i g:Y14):=(h.set p (IObj.tip (l+3))).set id (IObj.cells (List.take 2 g++ [IV.vslice (some p) (l+3) (j+1) 3 (i++(a8X op im ks))]++List.drop 3 g))
def b7M(id i g p:Nat)(op im:Int)(ks:Y12)(h:Heap)(l j:Y14):=(h.set i (IObj.tip (g+3))).set id (IObj.cells (List.take 2 j++ [IV.vslice (some i) (g+3) (p+1) 3 (l++(a8X op im ks))]++List.drop 3 j))
def a8Z:=iI (-1)
def a9A:=TV.l 3 0
def a9B(id:Nat):=TV.v (.ptr id 0)
theorem c7U(id:Nat)(op im:Int)(X:Y10)(V:Nat)(ks:Y12)(s:Y11)(a:Nat)(y:Y15)(io:Y10)(h:Heap)(Q:KT):dF (aS Nh) env 96 dL (kR 3 (d3Y id op im (.vslice X V ks.length 1 (ks.map (IV.int .i64))) ⟨op,im,ks⟩ y h)) bS [.ptr id 0,.agg [.int .i64 op,.int .i64 im,.vslice X V ks.length 1 (ks.map (IV.int .i64))]] h Q=(
 (∃(x:Nat),some (a9B id)=some (a9B id)/\some a9A=some a9A/\tI 0=tI (x:Int)/\some (a8Y op im X V ks)=some (a8Y op im X V ks)/\h=h/\(x<=y.length/\∀(j:Nat),j<x->y[j]?≠some (Nd.mk op im ks))/\True)/\∀(x:Nat)(b:FF),(x<=y.length/\∀(j:Nat),j<x->y[j]?≠some (Nd.mk op im ks))->aE h id fun r0=>bP 3 r0 2 (aE h id fun r1=>bP 3 r1 2 (aE (h.push (IObj.tip 3)) id fun r2=>aD (Nat.ble 3 r2.length) (aE (b7J id op im ks h r2) id fun r3=>bP 3 r3 2 (Q a8Z (b7J id op im ks h r2)) fun(i4 e5 l6:Nat)(c7:Y14)=>Q (.int .i64 (wW ((l6:Int)-1))) (b7J id op im ks h r2))) fun(Z Y p:Nat)(K:Y14)=>cK h Z fun(a7:Nat)=>aD (Nat.beq a7 Y&&Nat.ble ((p+1)*40) 140737488355328) (aE (h.set Z (IObj.tip (Y+3))) id fun z=>aD (Nat.ble 3 z.length) (aE (b7L id Z Y p op im ks h K z) id fun b1=>bP 3 b1 2 (Q a8Z (b7L id Z Y p op im ks h K z)) fun(c9 c1 a1:Nat)(b6:Y14)=>Q (.int .i64 (wW ((a1:Int)-1))) (b7L id Z Y p op im ks h K z)))) fun(d0 c2 a2:Nat)(b7:Y14)=>aJ (decide ((x:Int)< (a2:Int))) (aE h id fun b2=>bP 3 b2 2 False fun(d1 c3 a3:Nat)(L:Y14)=>aD (decide (0<=(x:Int)) &&decide ((x:Int)< (a3:Int))) (aI .i64 L ((x:Int).toNat*(3:Nat)) fun a9=>aI .i64 L ((x:Int).toNat*3+1) fun b0=>aX 1 L ((x:Int).toNat*3+1+1) fun(d2:Y10)(c5 a4:Nat)(a0:Y14)=> ∃(g T:Y12),(a4=g.length/\a0=List.map (IV.int .i64) g)/\(ks.length=T.length/\List.map (IV.int .i64) ks=List.map (IV.int .i64) T)/\g.length<=1000000000/\aJ (decide (Nd.mk a9 b0 g=Nd.mk op im T)) (Q (.int .i64 (x:Int)) h) (∃(G:Nat),some (a9B id)=some (a9B id)/\some a9A=some a9A/\tI (wW ((x:Int)+1))=tI (G:Int)/\some (a8Y op im X V ks)=some (a8Y op im X V ks)/\h=h/\(G<=y.length/\∀(j:Nat),j<G->y[j]?≠some (Nd.mk op im ks))/\y.length-G<y.length-x))) (aE h id fun b3=>bP 3 b3 2 (aE (h.push (IObj.tip 3)) id fun A=>aD (Nat.ble 3 A.length) (aE (b7K id op im ks h A) id fun b4=>bP 3 b4 2 (Q a8Z (b7K id op im ks h A)) fun(d3 c6 a5:Nat)(b9:Y14)=>Q (.int .i64 (wW ((a5:Int)-1))) (b7K id op im ks h A))) fun(l i u:Nat)(O:Y14)=>cK h l fun(a8:Nat)=>aD (Nat.beq a8 i&&Nat.ble ((u+1)*40) 140737488355328) (aE (h.set l (IObj.tip (i+3))) id fun D=>aD (Nat.ble 3 D.length) (aE (b7M id l i u op im ks h O D) id fun b5=>bP 3 b5 2 (Q a8Z (b7M id l i u op im ks h O D)) fun(d4 c8 a6:Nat)(c0:Y14)=>Q (.int .i64 (wW ((a6:Int)-1))) (b7M id l i u op im ks h O D))))):=by kernel_rfl
theorem a9C: ∀xs h Q,Ni xs h Q->aO env 96 xs h Q:=by
 intro xs h Q i;unfold Ni at i;split at i
 ·rename_i id op im i2 T n1 c1;obtain⟨ks,⟨rfl,rfl⟩,s,a,y,io,L,X,i⟩:=i;refine aN (Uo) (c7U id op im i2 T ks s a y io h Q) ?_;delta a8X b7J b7K a8Y b7L b7M a8Z a9A a9B tI wW iI;have tn: ∀x:Nat,(x:Int).toNat=x:=AE
  obtain⟨hn,hy,D,a0,Y⟩:=X;obtain⟨u,lv,p,A⟩:=(show fY h id s a y io from L);refine⟨⟨0,IR,IR,IR,IR,IR,⟨AR _,fun j K=>absurd K (DJ _)⟩,trivial⟩,?_⟩;rintro x _ ⟨Z,l⟩
  try dsimp only at Z l⊢
  rcases A with⟨rfl,rfl,rfl⟩| ⟨iL,rfl,rfl,t1,t2,O,t4,t5⟩
  ·refine aB p (cO rfl (aB p (cO rfl (aB ((aL u).trans p) (aA rfl (aB aH (bZ rfl ?_)))))));rw [show IntKind.i64.wrap (((1:Nat):Int)-1)=0 by decide];refine i _ (some h.next) (fY.put_nil (n:=⟨op,im,ks⟩) (lv:= .nilslice) u) ⟨ED _,fun j G h2 _ _=>?_⟩ (.inr ⟨rfl,_,rfl,AJ _⟩);rw [aG h2,aL G]
  ·refine aB p (bZ rfl (dA (fun c=>?_) (fun c=>?_)))
   ·have g:x<y.length:=IM;refine aB p (bZ rfl (bG ⟨IM,IM⟩ (oR g (by rw [tn]) ⟨y[x].ks,ks,⟨rfl,rfl⟩,⟨rfl,rfl⟩,by have:=D _ (AG g);omega,dA (fun z=>?_) (fun z=>?_)⟩)))
    ·rw [Rn g z l]at i;exact i h _ L dZ.refl fD.refl
    ·refine⟨x+1,IR,IR,(by rw [AB _ IM];rfl),IR,IR,⟨g,fun j K=>?_⟩,IM⟩;rcases BC j x with d|d
     ·exact l j d
     ·obtain rfl:j=x:=IM;rw [AA g];exact fun q=>z (AX q)
   ·obtain rfl:x=y.length:=IM;rw [Ro l]at i;refine aB p (bZ rfl (aV t1 (aA (by simp only [AF,bK,AM,true_and];omega) (aB ((aG O.symm).trans p) (aA rfl (aB aH (bZ rfl ?_)))))));rw [show IntKind.i64.wrap (((y.length+1:Nat):Int)-1)=(y.length:Int) by rw [AB _ IM];omega];refine i _ (some iL) (fY.put_some (s:=s) (a:=a) (y:=y) (n:=⟨op,im,ks⟩) u t2 O) ⟨AJ _,fun j G h2 _ V=>?_⟩ fD.refl;rw [aG h2,aG (fun q=>V (by rw [q]))]
 ·exact i.elim
def a9D:=aT 96 Ni Nh
theorem b7N:aP env a9D:=aF a9C (Uo)
def a9E(xs:Y14)(h:Heap)(K:KT):Prop:=match xs with
 | [.ptr id 0,.agg [.int .i64 op,.int .i64 im,sv]]=> ∃ks:Y12,KA sv ks/\∃(s:Y11)(a:Nat)(y:Y15)(io:Y10),fY h id s a y io/\(qR ⟨op,im,ks⟩/\(∀x∈y,qR x)/\(∀x∈y,x.ks.length<=1000000)/\y.length<=1000000/\(ks).length<=1000000)/\∀(h2:Heap)(g:Y10),fY h2 id s a (cH y ⟨op,im,ks⟩).1 g->dZ id id io h h2->fD h io g->K (.int .i64 (cH y ⟨op,im,ks⟩).2) h2
 |_=>False
theorem d3Z: ∀xs h Q,a9E xs h Q->aO env 96 xs h Q:=by
 intro xs h Q g;unfold a9E at g;split at g
 ·rename_i id op im l;obtain⟨ks,ka,g⟩:=g;rcases ka with⟨rfl,rfl⟩| ⟨j,i,rfl⟩
  ·exact a8W _ _ _ g
  ·exact a9C _ _ _ ⟨ks,⟨rfl,rfl⟩,g⟩
 ·exact g.elim
def a9F:=aT 96 a9E a9D
theorem a9G:aP env a9F:=aF d3Z (b7N)
def Z8(xs:Y14)(h:Heap)(K:KT):Prop:=match xs with
 | [.ptr id 0,.int .i64 q]=> ∃(s:Y11)(p:Nat)(io:Y10),rX h id s p io/\K (.tuple []) h
 |_=>False
theorem b7O(id:Nat)(q:Int)(h:Heap)(Q:KT):dF (aS a9F) env 48 dL bS bS [.ptr id 0,.int .i64 q] h Q=(
 aE h id fun r0=>aI .i64 r0 3 fun i=>aJ (i==0) (aE h id fun g=>aD (Nat.ble 5 g.length) (Q (.tuple []) (h.set id (IObj.cells (List.take 3 g++ [iI 2,iI q]++List.drop 5 g))))) (Q (.tuple []) h)):=by kernel_rfl
theorem Up: ∀xs h Q,Z8 xs h Q->aO env 48 xs h Q:=by
 intro xs h Q g;unfold Z8 at g;split at g
 ·rename_i id q;obtain⟨s,p,io,j,g⟩:=g;refine aN (a9G) (b7O id q h Q) ?_;delta iI;obtain⟨lv,a,i⟩:=j.2.1;exact aB i (bO rfl (aC (fun c=>by cases c) (fun _=>g)))
 ·exact g.elim
def Uq:=aT 48 Z8 a9F
theorem a9H:aP env Uq:=aF Up (a9G)
def Z9(xs:Y14)(h:Heap)(K:KT):Prop:=match xs with
 | [.ptr id 0,.int .i64 q]=>(∃(s:Y11)(a:Nat)(y:Y15)(io:Y10)(p:Nat),q=(p:Int)/\fY h id s a y io/\∀h2:Heap,rX h2 id s p io->dZ id id io h h2->K (.tuple []) h2) \/ (∃(s:Y11)(p:Nat)(io:Y10),rX h id s p io/\K (.tuple []) h)
 |_=>False
theorem b7P: ∀xs h Q,Z9 xs h Q->aO env 48 xs h Q:=by
 intro xs h Q g;unfold Z9 at g;split at g
 ·rename_i id q;rcases g with g|g
  ·exact a8O _ _ _ g
  ·exact Up _ _ _ g
 ·exact g.elim
def Aa:=aT 48 Z9 Uq
theorem Hb:aP env Aa:=aF b7P (a9H)
def pxC(id:Nat)(s:Y11)(a:Nat)(y:Y15)(io:Y10)(d:Nat)(h g:Heap)(i:Y10)(p:IV)(j:Nat)(l:Y15)(ks:Y12)(b:Bool):Prop:=
 PHx g id s j l i b/\(if b=true then wZ s (kG s d) (s.length+1) (a+1+(dI s (a+1)).length) y []=(j,none)else KsAt s (kG s d) (a+1+(dI s (a+1)).length) y j l ks/\K2 p ks g id id i h.next)/\dZ id id io h g/\fD h io i
def pxI(id:Nat)(s:Y11)(a:Nat)(y:Y15)(io:Y10)(d:Nat)(h:Heap):Inv':=eY (Heap×Y10×IV×Nat×Y15×Y12×Bool) (fun x=>[(0,.v (.ptr id 0)),(7,.l 7 0)]) (fun x=>[(7,[.int .i64 ((kT (dI s (a+1))).getD (0,0)).1,.int .i64 ((kT (dI s (a+1))).getD (0,0)).2,x.2.2.1])]) (fun x=>x.1)
 (fun x=>pxC id s a y io d h x.1 x.2.1 x.2.2.1 x.2.2.2.1 x.2.2.2.2.1 x.2.2.2.2.2.1 x.2.2.2.2.2.2/\True) (fun x=>if x.2.2.2.2.2.2=true then 0 else 1+(s.length-x.2.2.2.1))
def F4(d:Nat)(xs:Y14)(h:Heap)(K:KT):Prop:=match xs with
 | [.ptr id 0]=> ∃(s:Y11)(a:Nat)(y:Y15)(io:Y10),fY h id s a y io/\(a<=s.length/\s.length<=20000/\s.length-a<d)/\((∀n∈y,O5 n)/\y.length<=a)/\
  (∀(p:Nat)(j:Y15)(i:Int),kG s d a y=(p,some (j,i))-> ∀(h2:Heap)(g:Y10),fY h2 id s p j g->dZ id id io h h2->fD h io g->K (.int .i64 i) h2)/\
  (∀p:Nat,kG s d a y=(p,none)-> ∀(h2:Heap)(g:Y10),rX h2 id s p g->dZ id id io h h2->fD h io g->K (.int .i64 0) h2)
 |_=>False
def vM:=iI 0
def c7V(id:Nat)(h:Heap)(Q:KT)(j:Int):=(∃(s:Y11)(a:Nat)(y:Y15)(io:Y10),fY h id s a y io/\(a<=s.length/\s.length<=20000)/\∀(h2:Heap),fY h2 id s (a+(dI s a).length) y io->dZ id id io h h2->Heap.next h2=h.next->List.length (dI s a)<=1000000/\(∀(p:Int×Int),Ir (dI
 s a)=some p-> ∃(ks:Y12),KA (IV.vslice none 0 0 1 []) ks/\∃(s:Y11)(a:Nat)(y:Y15)(io:Y10),fY h2 id s a y io/\(qR (Nd.mk p.1 p.2 ks)/\(∀(x:Nd),x∈y->qR x)/\(∀(x:Nd),x∈y->List.length (Nd.ks x)<=1000000)/\y.length<=1000000/\ks.length
 <=1000000)/\∀(g:Heap)(i:Y10),fY g id s a ((cH y (Nd.mk p.1 p.2 ks)).1) i->dZ id id io h2 g->fD h2 io i->Q (.int .i64 ((cH y (Nd.mk p.1 p.2 ks)).2)) g)/\(Ir (dI s a)=none-> ∀(a b:Int),(∃(s:Y11)(a:Nat)(y:Y15),∃
 (io:Y10),∃(p:Nat),j=(p:Int)/\fY h2 id s a y io/\∀(g:Heap),rX g id s p io->dZ id id io h2 g->Q vM g) \/ ∃(s:Y11)(p:Nat)(io:Y10),rX h2 id s p io/\Q vM h2))
def Xs(i:Int)(g:Y14):=IObj.cells (List.take 1 g++ [iI (wW (i+1))]++List.drop 2 g)
def Xt(i:Int)(g:Y14):=IObj.cells (List.take 1 g++ [iI (wW (i+1))]++List.drop 2 g)
def oX:=((0:Int),(0:Int))
def b7Q(i:Int)(g:Y14):=IObj.cells (List.take 1 g++ [iI (wW (i+1))]++List.drop 2 g)
def b7R(i:Int)(g:Y14):=IObj.cells (List.take 1 g++ [iI (wW (i+1))]++List.drop 2 g)
def zD(g:Heap×Y10×IV×Nat×Y15×Y12×Bool):=g.2.2.2
def a9I:=TV.l 7 0
def a9J(id:Nat):=TV.v (.ptr id 0)
def Hc(a i id:Nat)(h:Heap)(io:Y10)(s:Y11)(x:Heap×Y10×IV×Nat×Y15×Y12×Bool)(y:Y15)(y0:Y14)(j:Heap):Prop:= ∃(g:Heap×Y10×IV×Nat×Y15×Y12×Bool),some (a9J id)=some (a9J id)/\some a9I=some a9I/\some (y0)=some [iI ((Option.getD (kT (dI s (a+1))) oX).1),iI ((Option.getD (kT (dI s (a+1))) oX).2),g.2.2.1]/\j=g.1/\((PHx g.1 id s (Prod.fst
 (zD g)) (((zD g).2).1) g.2.1 ((((zD g).2).2).2)/\(if Prod.snd (((zD g).2).2)=true then wZ s (kG s i) (s.length+1) (a+1+(dI s (a+1)).length) y []=((zD g).1,none)else KsAt s (kG s i) (a+1+(dI
 s (a+1)).length) y ((zD g).1) (((zD g).2).1) ((((zD g).2).2).1)/\K2 g.2.2.1 ((((zD g).2).2).1) g.1 id id g.2.1 (h.next))/\dZ id id io h g.1/\fD h io g.2.1)/\True)/\(if Prod.snd (((zD g).2).2)=true
 then(0:Nat)else(1:Nat)+(s.length- (zD g).1))<if x.2.2.2.2.2.2=true then(0:Nat)else(1:Nat)+(s.length-x.2.2.2.1)
theorem c7W(G:Nat)(id:Nat)(s:Y11)(a:Nat)(y:Y15)(io:Y10)(h:Heap)(Q:KT):dF (aS (aT 47 (F4 G) Aa)) env 47 dL (kR 15 (pxI id s a y io G h)) bS [.ptr id 0] h Q=(
 aE h id fun r0=>aI .i64 r0 1 fun n1=>aE h id fun r2=>aI .i64 r2 1 fun n3=>aE h id fun r4=>bL r4 0 fun(s5:Y11)=>aJ (decide (n3>=(s5.length:Int))) (c7V id h Q n1) (aE h id fun r6=>bL r6 0 fun(s7:Y11)=>aE h id fun r8=>aI .i64 r8 1 fun n9=>aD (decide (0<=n9)) (gN s7 n9.toNat fun a6=>aJ (a6 !=40) (c7V id h Q n1) (aE h id fun(e2:Y14)=>aI .i64 e2 1 fun a0=>aE h id fun Y=>aD (Nat.ble 2 Y.length) (aE (h.set id (b7Q a0 Y)) id fun e3=>aI .i64 e3 1 fun d2=> ∃(A:Y11)(D:Nat)(a5:Y15)(T:Y10),fY (h.set id (b7Q a0 Y)) id A D a5 T/\(D<=A.length/\A.length<=20000)/\∀(h2:Heap),fY h2 id A (D+(dI A D).length) a5 T->dZ id id T (h.set id (b7Q a0 Y)) h2->Heap.next h2=h.next->List.length (dI A D)<=1000000/\(∀(p:Int×Int),kT (dI A D)=some p->(∃(x:Heap×Y10×IV×Nat×Y15×Y12×Bool),some (a9J id)=some (a9J id)/\some a9I=some a9I/\some [iI p.1,iI p.2,IV.nilslice]=some [iI ((Option.getD (kT (dI s (a+1))) oX).1),iI ((Option.getD (kT (dI s (a+1))) oX).2),x.2.2.1]/\h2=x.1/\((PHx x.1 id s x.2.2.2.1 (((x.2.2.2).2).1) x.2.1 x.2.2.2.2.2.2/\(if x.2.2.2.2.2.2=true then wZ s (kG s G) (s.length+1) (a+1+(dI s (a+1)).length) y []=(x.2.2.2.1,none)else KsAt s (kG s G) (a+1+(dI s (a+1)).length) y x.2.2.2.1 x.2.2.2.2.1 ((((((x.2).2).2).2).2).1)/\K2 x.2.2.1 x.2.2.2.2.2.1 x.1 id id x.2.1 (h.next))/\dZ id id io h x.1/\fD h io x.2.1)/\True)/\True)/\∀(x:Heap×Y10×IV×Nat×Y15×Y12×Bool)(b:FF),pxC id s a y io G h x.1 x.2.1 x.2.2.1 x.2.2.2.1 x.2.2.2.2.1 x.2.2.2.2.2.1 (x.2.2.2.2.2.2)/\True->aE x.1 id fun e4=>aI .i64 e4 3 fun d3=>aJ (d3==0) (aE x.1 id fun e5=>aI .i64 e5 1 fun d4=>aE x.1 id fun e6=>bL e6 0 fun(g4:Y11)=>aJ (decide (d4< (g4.length:Int))) (aE x.1 id fun e7=>bL e7 0 fun(g5:Y11)=>aE x.1 id fun e8=>aI .i64 e8 1 fun a2=>aD (decide (0<=a2)) (gN g5 a2.toNat fun a7=>aJ (a7==41) (aE x.1 id fun e9=>aI .i64 e9 1 fun a1=>aE x.1 id fun Z=>aD (Nat.ble 2 Z.length) (∃(ks:Y12),KA x.2.2.1 ks/\∃(g:Y11)(l:Nat)(y:Y15)(io:Y10),fY (x.1.set id (b7R a1 Z)) id g l y io/\(qR (Nd.mk ((Option.getD (kT (dI s (a+1))) oX).1) ((Option.getD (kT (dI s (a+1))) oX).2) ks)/\(∀(x:Nd),x∈y->qR x)/\(∀(x:Nd),x∈y->List.length (Nd.ks x)<=1000000)/\y.length<=1000000/\ks.length<=1000000)/\∀(h2:Heap)(u:Y10),fY h2 id g l ((cH y (Nd.mk ((Option.getD (kT (dI s (a+1))) oX).1) ((Option.getD (kT (dI s (a+1))) oX).2) ks)).1) u->dZ id id io (x.1.set id (b7R a1 Z)) h2->fD (x.1.set id (b7R a1 Z)) io u->Q (.int .i64 ((cH y (Nd.mk ((Option.getD (kT (dI s (a+1))) oX).1) ((Option.getD (kT (dI s (a+1))) oX).2) ks)).2)) h2)) (aE x.1 id fun f0=>aI .i64 f0 1 fun d5=>aE x.1 id fun f1=>bL f1 0 fun(g6:Y11)=>aJ (decide (d5>=(g6.length:Int))) (aE x.1 id fun f2=>aI .i64 f2 1 fun d6=>(∃(s:Y11)(a:Nat)(y:Y15)(io:Y10)(p:Nat),d6=(p:Int)/\fY x.1 id s a y io/\∀(h2:Heap),rX h2 id s p io->dZ id id io x.1 h2->Q vM h2) \/ ∃(s:Y11)(p:Nat)(io:Y10),rX x.1 id s p io/\Q vM x.1) (aE x.1 id fun f3=>bL f3 0 fun(g7:Y11)=>aE x.1 id fun f4=>aI .i64 f4 1 fun a3=>aD (decide (0<=a3)) (gN g7 a3.toNat fun a8=>aJ (a8 !=32) (aE x.1 id fun f5=>aI .i64 f5 1 fun d7=>(∃(s:Y11)(a:Nat)(y:Y15)(io:Y10)(p:Nat),d7=(p:Int)/\fY (x.1) id s a y io/\∀(h2:Heap),rX h2 id s p io->dZ id id io x.1 h2->Q vM h2) \/ ∃(s:Y11)(p:Nat)(io:Y10),rX x.1 id s p io/\Q vM x.1) (aE x.1 id fun f6=>aI .i64 f6 1 fun V=>aE x.1 id fun K=>aD (Nat.ble 2 K.length) (∃(g:Y11)(l:Nat)(z:Y15)(j:Y10),fY (x.1.set id (Xs V K)) id g l z j/\(l<=g.length/\g.length<=20000/\List.length g-l<G)/\((∀(n:Nd),n∈z->O5 n)/\z.length<=l)/\(∀(p:Nat)(y2:Y15)(i:Int),kG g G l z=(p,some (y2,i))-> ∀(h2:Heap)(u:Y10),fY h2 id g p y2 u->dZ id id j (x.1.set id (Xs V K)) h2->fD ((x.1).set id (Xs V K)) j u->nH h2 1 8 x.2.2.1 1 [iI i] fun(c3 b4 c8:Nat)(a9:Y14)(b9:Heap)=>Hc a G id h io s x y [iI ((Option.getD (kT (dI s (a+1))) oX).1),iI ((Option.getD (kT (dI s (a+1))) oX).2),IV.vslice (some c3) b4 c8 1 a9] b9)/\∀(p:Nat),kG g G l z=(p,none)-> ∀(h2:Heap)(u:Y10),rX h2 id g p u->dZ id id j (x.1.set id (Xs V K)) h2->fD (x.1.set id (Xs V K)) j u->nH h2 1 8 x.2.2.1 1 [iI 0] fun(c5 b5 c9:Nat)(b0:Y14)(c0:Heap)=>Hc a G id h io s x y [iI ((Option.getD (kT (dI s (a+1))) oX).1),iI ((Option.getD (kT (dI s (a+1))) oX).2),IV.vslice (some c5) b5 c9 1 b0] c0))))))) (aE x.1 id fun f7=>aI .i64 f7 1 fun d8=>aE x.1 id fun f8=>bL f8 0 fun(g8:Y11)=>aJ (decide (d8>=(g8.length:Int))) (aE x.1 id fun f9=>aI .i64 f9 1 fun d9=>(∃(s:Y11)(a:Nat)(y:Y15)(io:Y10)(p:Nat),d9=(p:Int)/\fY x.1 id s a y io/\∀(h2:Heap),rX h2 id s p io->dZ id id io x.1 h2->Q vM h2) \/ ∃(s:Y11)(p:Nat)(io:Y10),rX x.1 id s p io/\Q vM x.1) (aE x.1 id fun g0=>bL g0 0 fun(g9:Y11)=>aE x.1 id fun g1=>aI .i64 g1 1 fun a4=>aD (decide (0<=a4)) (gN g9 a4.toNat fun b1=>aJ (b1 !=32) (aE x.1 id fun g2=>aI .i64 g2 1 fun e1=>(∃(s:Y11)(a:Nat)(y:Y15)(io:Y10)(p:Nat),e1=(p:Int)/\fY x.1 id s a y io/\∀(h2:Heap),rX h2 id s p io->dZ id id io x.1 h2->Q vM h2) \/ ∃(s:Y11)(p:Nat)(io:Y10),rX x.1 id s p io/\Q vM x.1) (aE x.1 id fun(g3:Y14)=>aI .i64 g3 1 fun X=>aE x.1 id fun L=>aD (Nat.ble 2 L.length) (∃(g:Y11)(l:Nat)(z:Y15)(j:Y10),fY (x.1.set id (Xt X L)) id g l z j/\(l<=List.length g/\g.length<=20000/\g.length-l<G)/\((∀(n:Nd),n∈z->O5 n)/\z.length<=l)/\(∀(p:Nat)(y2:Y15)(i:Int),kG g G l z=(p,some (y2,i))-> ∀(h2:Heap)(u:Y10),fY h2 id g p y2 u->dZ id id j ((x.1).set id (Xt X L)) h2->fD (x.1.set id (Xt X L)) j u->nH h2 1 8 x.2.2.1 1 [iI i] fun(c6 b6 d0:Nat)(b2:Y14)(c1:Heap)=>Hc a G id h io s x y [iI ((Option.getD (kT (dI s (a+1))) oX).1),iI ((Option.getD (kT (dI s (a+1))) oX).2),IV.vslice (some c6) b6 d0 1 b2] c1)/\∀(p:Nat),kG g G l z=(p,none)-> ∀(h2:Heap)(u:Y10),rX h2 id g p u->dZ id id j ((x.1).set id (Xt X L)) h2->fD (x.1.set id (Xt X L)) j u->nH h2 1 8 x.2.2.1 1 [iI 0] fun(c7 b7 d1:Nat)(b3:Y14)(c2:Heap)=>Hc a G id h io s x y [iI ((Option.getD (kT (dI s (a+1))) oX).1),iI ((Option.getD (kT (dI s (a+1))) oX).2),IV.vslice (some c7) b7 d1 1 b3] c2)))))) (Q vM x.1))/\(kT (dI A D)=none-> ∀(a b:Int),(∃(s:Y11)(a:Nat)(y:Y15)(io:Y10)(p:Nat),d2=(p:Int)/\fY h2 id s a y io/\∀(O:Heap),rX O id s p io->dZ id id io h2 O->Q vM O) \/ ∃(s:Y11)(p:Nat)(io:Y10),rX h2 id s p io/\Q vM h2)))))):=by kernel_rfl
theorem c7X: ∀d xs h Q,F4 d xs h Q->aO env 47 xs h Q:=by
 intro d
 induction d with
 |zero=>
  intro xs h Q V;unfold F4 at V;split at V
  ·rename_i id;obtain⟨s,a,y,io,hr,hs,hg,V,hn⟩:=V;have:=hs.2.2;omega
  ·exact V.elim
 |succ dd ih=>
  intro xs h Q V;unfold F4 at V;split at V
  ·rename_i id;obtain⟨s,a,y,io,hr,hs,hg,V,hn⟩:=V;refine aN (aF ih (Hb)) (c7W dd id s a y io h Q) ?_;delta Hc c7V Xs Xt oX vM b7Q b7R zD a9I a9J wW iI;have tn: ∀x:Nat,(x:Int).toNat=x:=AE
   obtain⟨b0,a8,c0⟩:=hs;obtain⟨a7,d1⟩:=hg;obtain⟨c7,lv,gi,d0⟩:=(show fY h id s a y io from hr);refine aB gi (bO rfl (aB gi (bO rfl (aB gi (dG rfl (dA (fun c=>?_) (fun c=>?_)))))))
   ·have a0:nx s a 40=false:=Rp IM 40;have hw:=rV b0;refine⟨s,a,y,io,hr,⟨b0,a8⟩,fun h2 hP hF hN=>⟨IM,fun o ho=>?_,fun ho _ _=> .inl ⟨s,_,y,io,a,rfl,hP,fun L b3 f3=>hn a (by rw [kG,a0,if_neg IN,ho]) L io b3 (hF.trans fD.refl f3) fD.refl⟩⟩⟩;have h1:=T9 ho;exact⟨[],.inr ⟨none,0,rfl⟩,s,_,y,io,hP,⟨D4 ⟨h1.1,h1.2.1⟩ (fun k V=>by cases V),fun x hx=>(a7 x hx).1,fun x hx=>(a7 x hx).2,IM,AR _⟩,fun L K r2 f2 k2=>V _ _ _ (by rw [kG,a0,if_neg IN,ho]) L K r2 (hF.trans fD.refl f2) (fD.refl.trans hF.1 k2)⟩
   have b1:a<s.length:=IM;refine aB gi (dG rfl (aB gi (bO rfl (aA IP ?_))));rw [tn];refine gV b1 (aC (fun c1=>?_) (fun c1=>?_))
   ·have a0:nx s a 40=false:=by rw [yO b1,beq_eq_false_iff_ne];exact bne_iff_ne.1 c1
    have hw:=rV b0;refine⟨s,a,y,io,hr,⟨b0,a8⟩,fun h2 hP hF hN=>⟨IM,fun o ho=>?_,fun ho _ _=> .inl ⟨s,_,y,io,a,rfl,hP,fun L b3 f3=>hn a (by rw [kG,a0,if_neg IN,ho]) L io b3 (hF.trans fD.refl f3) fD.refl⟩⟩⟩;have h1:=T9 ho;exact⟨[],.inr ⟨none,0,rfl⟩,s,_,y,io,hP,⟨D4 ⟨h1.1,h1.2.1⟩ (fun k V=>by cases V),fun x hx=>(a7 x hx).1,fun x hx=>(a7 x hx).2,IM,AR _⟩,fun L K r2 f2 k2=>V _ _ _ (by rw [kG,a0,if_neg IN,ho]) L K r2 (hF.trans fD.refl f2) (fD.refl.trans hF.1 k2)⟩
   have a0:nx s a 40=true:=by rw [yO b1,beq_iff_eq];rw [bne_eq_false_iff_eq]at c1;exact c1
   have hw:=rV (s:=s) (a:=a+1) IM;have r1:=hr.adv gi 1 IM;refine aB gi (bO rfl (aB gi (aA rfl (aB aH (bO rfl ⟨s,a+1,y,io,r1,⟨IM,a8⟩,fun h2 hP hF hN=>⟨IM,fun o ho=>?_,fun ho _ _=> .inl ⟨s,_,y,io,a+1,(by rw [AB _ IM];rfl),hP,fun L b3 f3=>hn (a+1) (by rw [kG,a0,if_pos rfl,ho]) L io b3 ((dZ.setId.trans fD.refl hF).trans fD.refl f3) fD.refl⟩⟩⟩)))));have h1:=Kl ho;have eO:(kT (dI s (a+1))).getD (0,0)=o:=by rw [ho];rfl
   have O:kG s (dd+1) a y=match wZ s (kG s dd) (s.length+1) (a+1+(dI s (a+1)).length) y []with
    | (p,none)=>(p,none)
    | (p,some (y2,ks))=>(p,some (cH y2 ⟨o.1,o.2,ks⟩)):=by rw [kG,a0,if_pos rfl,ho];rfl
   have b4:dZ id id io h h2:=dZ.setId.trans fD.refl hF;simp only [eO];refine⟨⟨(h2,io,.nilslice,a+1+(dI s (a+1)).length,y,[],false),IR,IR,IR,IR,⟨⟨hP,Xf ⟨KsAt.start hw IM a7,.inl ⟨rfl,rfl⟩⟩,b4,fD.refl⟩,trivial⟩,trivial⟩,?_⟩;clear hP hF b4 hN;rintro⟨g,l,kv,D,y2,ks,b⟩ _ ⟨hC,_⟩;obtain⟨hX,hb,X,Z⟩:=(show pxC id s a y io dd h g l kv D y2 ks b from hC);dsimp only
   cases b with
   |true=>
    have hX:=(show rX g id s D l from hX);have hb:=(show wZ s (kG s dd) (s.length+1) (a+1+(dI s (a+1)).length) y []=(D,none)from hb);obtain⟨lv2,a3,b6⟩:=hX.2.1;rw [hb]at O;exact aB b6 (bO rfl (aC (fun c=>by cases c) (fun _=>hn D O g l hX X Z)))
   |false=>
    have hX:=(show fY g id s D y2 l from hX);obtain⟨u,a6⟩:=(show KsAt s (kG s dd) (a+1+(dI s (a+1)).length) y D y2 ks/\K2 kv ks g id id l h.next from hb);obtain⟨_,d2,j,b7⟩:=(show fY g id s D y2 l from hX);have c9:=u.le;have b9:=u.yl;have c8:=u.kl;refine aB j (bO rfl (aC (fun _=>?_) (fun c=>by cases c)));refine aB j (bO rfl (aB j (dG rfl (dA (fun c2=>?_) (fun c2=>?_)))))
    ·have z:D<s.length:=IM;refine aB j (dG rfl (aB j (bO rfl (aA IP ?_))));rw [tn];refine gV z (aC (fun c3=>?_) (fun c3=>?_))
     ·have b2:nx s D 41=true:=by rw [yO z];exact c3
      have G:=u.stop (c3D b2);rw [b2,if_pos rfl]at G;rw [G]at O;refine aB j (bO rfl (aB j (aA rfl ⟨ks,a6.ka,s,D+1,y2,l,hX.adv j 1 IM,⟨D4 h1 (fun k V=>?_),fun x hx=>(u.ok x hx).1,fun x hx=>(u.ok x hx).2,IM,IM⟩,fun h2 K r2 f2 o2=>?_⟩)))
      ·have:=u.kb k V;unfold aR
       omega
      ·exact V _ _ _ O h2 K r2 (X.trans Z (dZ.setId.trans fD.refl f2)) (Z.trans X.1 o2)
     ·have a9:nx s D 41=false:=by rw [yO z];exact c3
      refine aB j (bO rfl (aB j (dG rfl (dA (fun c5=>aB j (bO rfl (.inl ⟨s,D,y2,l,D,rfl,hX,fun L b3 f3=>?_⟩))) (fun c5=>?_)))))
      ·have G:=u.stop (Rp IM 32);rw [a9,if_neg IN]at G;rw [G]at O;exact hn D O L l b3 (X.trans Z f3) Z
      have z:D<s.length:=IM;refine aB j (dG rfl (aB j (bO rfl (aA IP ?_))));rw [tn];refine gV z (aC (fun c6=>aB j (bO rfl (.inl ⟨s,D,y2,l,D,rfl,hX,fun L b3 f3=>?_⟩))) (fun c6=>?_))
      ·have Y:nx s D 32=false:=by rw [yO z,beq_eq_false_iff_ne];exact bne_iff_ne.1 c6
       have G:=u.stop Y;rw [a9,if_neg IN]at G;rw [G]at O;exact hn D O L l b3 (X.trans Z f3) Z
      have Y:nx s D 32=true:=by rw [yO z,beq_iff_eq];rw [bne_eq_false_iff_eq]at c6;exact c6
      have rj:=hX.adv j 1 IM;refine aB j (bO rfl (aB j (aA rfl ⟨s,D+1,y2,l,rj,⟨IM,a8,by have:=u.ge;omega⟩,⟨u.ok,IM⟩,fun p y3 i e h2 K r2 f2 o2=>?_,fun p e h2 K r2 f2 o2=>?_⟩)))
      ·have a4:=xF s IM dd (D+1) y2 p y3 i e;have v2:=a6.setId.step f2 o2;have fg:dZ id id l g h2:=dZ.setId.trans fD.refl f2;have b5:=a4.1.pos;refine lI v2.app IM (fun kk L a5 T a1=>?_);have A:=v2.new r2.lts (BK X.1 fg.1) a5 a1;refine⟨(L,K,_,p,y3,ks++ [i],false),IR,IR,IR,IR,⟨⟨r2.frameK ⟨A.2.1.1,A.2.1.2.2⟩ T,Xf ⟨u.next Y e a4.1 a4.2 IM,A.1⟩,(X.trans Z fg).hf T A.2.2,Z.trans X.1 o2⟩,trivial⟩,?_⟩;dsimp only;rw [if_neg IN,if_neg IN];omega
      ·have v2:=a6.setId.step f2 o2;have fg:dZ id id l g h2:=dZ.setId.trans fD.refl f2;refine lI v2.app IM (fun kk L a5 T a1=>?_);have A:=v2.new r2.lts (BK X.1 fg.1) a5 a1;refine⟨(L,K,_,p,[],[],true),IR,IR,IR,IR,⟨⟨r2.frameK ⟨A.2.1.1,A.2.1.2.2⟩ T,Xg (u.fail Y e),(X.trans Z fg).hf T A.2.2,Z.trans X.1 o2⟩,trivial⟩,?_⟩;dsimp only;rw [if_pos rfl,if_neg IN];omega
    ·have a9:nx s D 41=false:=Rp IM 41;refine aB j (bO rfl (aB j (dG rfl (dA (fun c5=>aB j (bO rfl (.inl ⟨s,D,y2,l,D,rfl,hX,fun L b3 f3=>?_⟩))) (fun c5=>?_)))))
     ·have G:=u.stop (Rp IM 32);rw [a9,if_neg IN]at G;rw [G]at O;exact hn D O L l b3 (X.trans Z f3) Z
     have z:D<s.length:=IM;refine aB j (dG rfl (aB j (bO rfl (aA IP ?_))));rw [tn];refine gV z (aC (fun c6=>aB j (bO rfl (.inl ⟨s,D,y2,l,D,rfl,hX,fun L b3 f3=>?_⟩))) (fun c6=>?_))
     ·have Y:nx s D 32=false:=by rw [yO z,beq_eq_false_iff_ne];exact bne_iff_ne.1 c6
      have G:=u.stop Y;rw [a9,if_neg IN]at G;rw [G]at O;exact hn D O L l b3 (X.trans Z f3) Z
     have Y:nx s D 32=true:=by rw [yO z,beq_iff_eq];rw [bne_eq_false_iff_eq]at c6;exact c6
     have rj:=hX.adv j 1 IM;refine aB j (bO rfl (aB j (aA rfl ⟨s,D+1,y2,l,rj,⟨IM,a8,by have:=u.ge;omega⟩,⟨u.ok,IM⟩,fun p y3 i e h2 K r2 f2 o2=>?_,fun p e h2 K r2 f2 o2=>?_⟩)))
     ·have a4:=xF s IM dd (D+1) y2 p y3 i e;have v2:=a6.setId.step f2 o2;have fg:dZ id id l g h2:=dZ.setId.trans fD.refl f2;have b5:=a4.1.pos;refine lI v2.app IM (fun kk L a5 T a1=>?_);have A:=v2.new r2.lts (BK X.1 fg.1) a5 a1;refine⟨(L,K,_,p,y3,ks++ [i],false),IR,IR,IR,IR,⟨⟨r2.frameK ⟨A.2.1.1,A.2.1.2.2⟩ T,Xf ⟨u.next Y e a4.1 a4.2 IM,A.1⟩,(X.trans Z fg).hf T A.2.2,Z.trans X.1 o2⟩,trivial⟩,?_⟩;dsimp only;rw [if_neg IN,if_neg IN];omega
     ·have v2:=a6.setId.step f2 o2;have fg:dZ id id l g h2:=dZ.setId.trans fD.refl f2;refine lI v2.app IM (fun kk L a5 T a1=>?_);have A:=v2.new r2.lts (BK X.1 fg.1) a5 a1;refine⟨(L,K,_,p,[],[],true),IR,IR,IR,IR,⟨⟨r2.frameK ⟨A.2.1.1,A.2.1.2.2⟩ T,Xg (u.fail Y e),(X.trans Z fg).hf T A.2.2,Z.trans X.1 o2⟩,trivial⟩,?_⟩;dsimp only;rw [if_pos rfl,if_neg IN];omega
  ·exact V.elim
def Nj:=aT 47 (fun xs h K=> ∃d,F4 d xs h K) Aa
theorem Ur:aP env Nj:=aF (fun xs h Q g=>g.elim fun d g=>c7X d xs h Q g) (Hb)
def Ab(xs:Y14)(h:Heap)(K:KT):Prop:=match xs with
 | [.str s]=>K (.tuple [.vslice none 0 ((fS s).1).length 3 (((fS s).1).flatMap cN),.agg [.int .i64 (fS s).2.1,.int .i64 (fS s).2.2]]) h
 |_=>False
def Xu(s:Y11):=Heap.mk (PT.node (PT.node PT.nil (some (IObj.cells [IV.str s,iI 0,IV.bool false,IV.nilslice,IV.map 0])) PT.nil) (some (IObj.map [])) PT.nil) ((0:Nat)+1+1)
def a9K:=[iI 0,iI 0]
def c7Y:=IV.tuple [.vslice none 0 0 3 [],IV.agg [.int .i64 1,iI 0]]
def c7Z:=IV.tuple [.vslice none 0 0 3 [],IV.agg [.int .i64 6,iI 0]]
def Xv:=(0:Nat)+1
def c8A(l:Y15):=(∀(x:Nd),x∈l->List.length (Nd.ks x)<=1000000/\True)
theorem b7S(s:Y11)(h:Heap)(Q:KT):dF (aS Nj) env 16 dL bS bS [.str s] h Q=(
 aJ (decide ((s.length:Int)>20000)) (Q (.tuple [.vslice none 0 0 3 [],IV.agg [.int .i64 6,iI 20000]]) h) (∃(d:Nat)(g:Y11)(a:Nat)(y:Y15)(m:Nat)(io:Y10),RH (Xu s) Xv g a y m io/\(a<=g.length/\g.length<=20000/\g.length-a<d)/\((∀(n:Nd),n∈y->O5 n)/\y.length<=a)/\(∀(p:Nat)(y2:Y15)(i:Int),kG g d a y=(p,some (y2,i))-> ∀(h2:Heap)(j:Y10),RH h2 Xv g p y2 m j->dZ Xv m io (Xu s) h2->fD (Xu s) io j->aE h2 1 fun r0=>kQ r0 2 fun b1=>aJ b1 (aE h2 1 fun r2=>aI .i64 r2 1 fun n3=>Q (.tuple [.vslice none 0 0 3 [],IV.agg [.int .i64 2,iI n3]]) h) (aE h2 1 fun r4=>aI .i64 r4 1 fun n5=>aJ (decide (n5< (s.length:Int))) (aE h2 1 fun r6=>aI .i64 r6 1 fun n7=>Q (.tuple [.vslice none 0 0 3 [],IV.agg [.int .i64 2,iI n7]]) h) (aE h2 1 fun r8=>aX 3 r8 3 fun(i9:Y10)(b3 O:Nat)(K:Y14)=> ∃(l:Y15),(O=l.length/\K=List.flatMap cN l)/\((c8A l)/\List.length l<=1000000/\0<=i/\i< (l.length:Int))/\aJ (List.getD (aK l) i.toNat 0==0) (Q c7Y h) (aE h2 1 fun a1=>aX 3 a1 3 fun(c0:Y10)(b4 T:Nat)(b0:Y14)=>aJ (decide ((T:Int)>(2000:Int))) (Q c7Z h) (aE h2 1 fun a2=>aX 3 a2 3 fun(c1:Y10)(b5 A:Nat)(u:Y14)=>aD (aM [IV.vslice none 0 A 3 u,IV.agg a9K]) (Q (.tuple [.vslice none 0 A 3 u,IV.agg a9K]) h))))))/\∀(p:Nat),kG g d a y=(p,none)-> ∀(h2:Heap)(j:Y10),Is h2 Xv g p m j->dZ Xv m io (Xu s) h2->fD (Xu s) io j->aE h2 1 fun a3=>kQ a3 2 fun G=>aJ G (aE h2 1 fun a4=>aI .i64 a4 1 fun Y=>Q (.tuple [.vslice none 0 0 3 [],IV.agg [.int .i64 2,iI Y]]) h) (aE h2 1 fun a5=>aI .i64 a5 1 fun Z=>aJ (decide (Z< (s.length:Int))) (aE h2 1 fun a6=>aI .i64 a6 1 fun a0=>Q (.tuple [.vslice none 0 0 3 [],IV.agg [.int .i64 2,iI a0]]) h) (aE h2 1 fun a7=>aX 3 a7 3 fun(c2:Y10)(b6 V:Nat)(L:Y14)=> ∃(l:Y15),(V=l.length/\L=List.flatMap cN l)/\((c8A l)/\l.length<=1000000/\(0:Int)<=0/\0< (l.length:Int))/\aJ (List.getD (aK l) 0 0==0) (Q c7Y h) (aE h2 1 fun a8=>aX 3 a8 3 fun(c3:Y10)(b7 X:Nat)(b2:Y14)=>aJ (decide ((X:Int)>2000)) (Q c7Z h) (aE h2 1 fun a9=>aX 3 a9 3 fun(c5:Y10)(b9 D:Nat)(z:Y14)=>aD (aM [IV.vslice none 0 D 3 z,IV.agg a9K]) (Q (.tuple [.vslice none 0 D 3 z,IV.agg a9K]) h))))))):=by kernel_rfl
theorem b7T: ∀xs h Q,Ab xs h Q->aO env 16 xs h Q:=by
 intro xs h Q g;unfold Ab at g;split at g
 ·rename_i s;refine aN (Ur) (b7S s h Q) ?_;delta Xu a9K c7Y c7Z Xv c8A iI;have tn: ∀x:Nat,(x:Int).toNat=x:=AE
  refine dA (fun c=>?_) (fun c=>⟨s.length+1,s,0,[],0,none,⟨⟨by show 0+1<0+1+1;decide,by show 0<0+1+1;decide,IN⟩,rfl,.nilslice,rfl,.inl ⟨rfl,rfl,rfl⟩⟩,⟨AR _,IM,IM⟩,⟨fun n T=>(by cases T),AR _⟩,fun p y i e h2 u G O Y=>?_,fun p e h2 u G O Y=>?_⟩)
  ·have e:fS s=([],6,20000):=if_pos IM;rw [e]at g;exact g
  ·obtain⟨hi,K,X,hp,D⟩:=U0 IM e;obtain⟨_,Z,lv,l,A⟩:=(show RH h2 1 s p y 0 u from G);have j:fS s=if p<s.length then([],2,(p:Int))else if(aK y).getD i.toNat 0=0 then([],1,0)else if 2000<y.length then([],6,0)else(y,0,0):=by
    unfold fS
    rw [if_neg IM,e]
   rcases A with⟨_,_,e0⟩| ⟨iL,rfl,rfl,t1,t2,t3,t4,t5⟩
   ·rw [e0]at K;exact absurd K IN
   refine aB l (K1 rfl (aC (fun c=>by cases c) (fun _=>aB l (bO rfl (dA (fun L=>aB l (bO rfl ?_)) (fun L=>aB l (oS rfl ⟨y,⟨rfl,rfl⟩,⟨fun x V=>⟨(D x V).2,trivial⟩,IM,IM,IM⟩,aC (fun z=>?_) (fun z=>aB l (oS rfl (dA (fun c4=>?_) (fun c4=>aB l (oS rfl (aA ?_ ?_))))))⟩)))))))
   ·rw [j,if_pos IM]at g;exact g
   ·rw [j,if_neg IM,if_pos (eq_of_beq z)]at g;exact g
   ·rw [j,if_neg IM,if_neg (by rw [beq_eq_false_iff_ne]at z;exact z),if_pos IM]at g;exact g
   ·simp only [aM,bI,cI,AT]
   ·rw [j,if_neg IM,if_neg (by rw [beq_eq_false_iff_ne]at z;exact z),if_neg IM]at g;exact g
  ·obtain⟨lv,l⟩:=(show Is h2 1 s p 0 u from G).2.1;have j:fS s=([],2,(p:Int)):=by
    unfold fS
    rw [if_neg IM,e]
   rw [j]at g;exact aB l (K1 rfl (aC (fun _=>aB l (bO rfl g)) (fun c=>by cases c)))
 ·exact g.elim
def Ac:=aT 16 Ab Nj
theorem Hd:aP env Ac:=aF b7T (Ur)
def prC(s:Y11)(g:Heap)(id:Nat)(io:Y10)(p:Nat)(y:Y15)(b:Bool):Prop:=PHx g id s p y io b/\(if b=true then fS s=([],2,(p:Int))else(fS s=if(aK y).getD (y.length-1) 0=0 then([],1,0)else if 2000<y.length then([],6,0)else(y,0,0))/\0<y.length/\y.length<=20000/\∀n∈y,O5 n)
def prI(s:Y11):Inv':=eY (Heap×Nat×Y10×Nat×Y15×Bool) (fun x=>[(4,.v (.ptr x.2.1 0)),(3,.l 3 0)]) (fun _=>[(3,[.int .i64 0,.int .i64 0])]) (fun x=>x.1) (fun x=>prC s x.1 x.2.1 x.2.2.1 x.2.2.2.1 x.2.2.2.2.1 x.2.2.2.2.2/\True) (fun _=>0)
def F5(xs:Y14)(h:Heap)(K:KT):Prop:=match xs with
 | [.str s]=>K (.tuple [.vslice none 0 ((fS s).1).length 3 (((fS s).1).flatMap cN),.agg [.int .i64 (fS s).2.1,.int .i64 (fS s).2.2]]) h
 |_=>False
def Xw(s:Y11):=Heap.mk (PT.node PT.nil (some (IObj.cells [IV.str s,iI 0,IV.nilslice,iI 0,iI 0])) PT.nil) ((0:Nat)+1)
def F6(g:Heap×Nat×Y10×Nat×Y15×Bool):=g.2.2.2.2
def a9L:=[iI 0,iI 0]
def F7(s:Y11)(y0:Heap):Prop:= ∃(g:Heap×Nat×Y10×Nat×Y15×Bool),some (TV.v (.ptr 0 0))=some (TV.v (.ptr g.2.1 0))/\some (TV.l 3 0)=some (TV.l 3 0)/\some a9L=some a9L/\y0=g.1/\((PHx g.1 g.2.1 s g.2.2.2.1 ((F6 g).1) g.2.2.1 ((F6 g).2)/\if Prod.snd (F6 g)=true then
 fS s=([],(2:Int),(g.2.2.2.1:Int))else(fS s=if List.getD (aK ((F6 g).1)) (((F6 g).1).length-1) 0=0 then([],(1:Int),(0:Int))else if 2000< ((F6 g).1).length then([],(6:Int),(0:Int))else((F6 g).1,(0:Int),(0
 :Int)))/\0< ((F6 g).1).length/\List.length ((F6 g).1)<=20000/\∀(n:Nd),n∈Prod.fst (F6 g)->O5 n)/\True)/\True
theorem a9M(s:Y11)(h:Heap)(Q:KT):dF (aS Ac) env 17 dL bS (icS (kR 8 (prI s))) [.str s] h Q=(
 aJ (decide ((s.length:Int)>20000)) (Q (.tuple [.vslice none 0 0 3 [],IV.agg [.int .i64 6,iI 20000]]) h) (∃(d:Nat)(u:Y11)(a:Nat)(y:Y15)(io:Y10),fY (Xw s) 0 u a y io/\(a<=u.length/\u.length<=20000/\u.length-a<d)/\((∀(n:Nd),n∈y->O5 n)/\y.length<=a)/\(∀(p:Nat)(y2:Y15)(i:Int),kG u d a y=(p,some (y2,i))-> ∀(h2:Heap)(z:Y10),fY h2 0 u p y2 z->dZ 0 0 io (Xw s) h2->fD (Xw s) io z->aE h2 0 fun r0=>aI .i64 r0 1 fun n1=>aJ (decide (n1< (s.length:Int))) (aE h2 0 fun r2=>aI .i64 r2 1 fun n3=>(∃(j:Y11)(a:Nat)(y:Y15)(io:Y10)(p:Nat),n3=(p:Int)/\fY h2 0 j a y io/\∀(g:Heap),rX g 0 j p io->dZ 0 0 io h2 g->F7 s g) \/ ∃(j:Y11)(p:Nat)(io:Y10),rX h2 0 j p io/\F7 s h2) (F7 s h2))/\∀(p:Nat),kG u d a y=(p,none)-> ∀(h2:Heap)(z:Y10),rX h2 0 u p z->dZ 0 0 io (Xw s) h2->fD (Xw s) io z->aE h2 0 fun r4=>aI .i64 r4 1 fun n5=>aJ (decide (n5< ((s.length):Int))) (aE h2 0 fun r6=>aI .i64 r6 1 fun n7=>(∃(j:Y11)(a:Nat)(y:Y15)(io:Y10)(p:Nat),n7=(p:Int)/\fY h2 0 j a y io/\∀(g:Heap),rX g 0 j p io->dZ 0 0 io h2 g->F7 s g) \/ ∃(j:Y11)(p:Nat)(io:Y10),rX h2 0 j p io/\F7 s h2) (F7 s h2))/\(∀(x:Heap×Nat×Y10×Nat×Y15×Bool)(b:FF),prC s x.1 x.2.1 x.2.2.1 (x.2.2.2.1) x.2.2.2.2.1 x.2.2.2.2.2/\True->aE x.1 x.2.1 fun r8=>aI .i64 r8 3 fun n9=>aJ (n9 !=0) (aE x.1 x.2.1 fun K=>aI .i64 K 3 fun V=>aI .i64 K 4 fun X=>Q (.tuple [.vslice none 0 0 3 [],IV.agg [.int .i64 V,iI X]]) h) (aE x.1 x.2.1 fun Y=>aX 3 Y 2 fun(a8:Y10)(a4 O:Nat)(L:Y14)=>aE x.1 x.2.1 fun Z=>aX 3 Z 2 fun(a9:Y10)(a5 A:Nat)(a2:Y14)=> ∃(l:Y15),(O=l.length/\L=List.flatMap cN l)/\((∀(x:Nd),x∈l->List.length (Nd.ks x)<=1000000/\True)/\l.length<=1000000/\0<=wW ((A:Int)-1)/\wW ((A:Int)-1)< (l.length:Int))/\aJ (List.getD (aK l) ((wW ((A:Int)-1)).toNat) 0==0) (Q (.tuple [.vslice none 0 0 3 [],IV.agg [.int .i64 1,iI 0]]) h) (aE x.1 x.2.1 fun(a0:Y14)=>aX 3 a0 2 fun(b0:Y10)(a6 T:Nat)(a3:Y14)=>aJ (decide ((T:Int)>2000)) (Q (.tuple [.vslice none 0 0 3 [],IV.agg [.int .i64 6,iI 0]]) h) (aE (x.1) x.2.1 fun a1=>aX 3 a1 2 fun(b1:Y10)(a7 G:Nat)(D:Y14)=>aD (aM [IV.vslice none 0 G 3 D,IV.agg a9L]) (Q (.tuple [.vslice none 0 G 3 D,IV.agg a9L]) h)))))/\True):=by kernel_rfl
theorem a9N: ∀xs h Q,F5 xs h Q->aO env 17 xs h Q:=by
 intro xs h Q z;unfold F5 at z;split at z
 ·rename_i s;refine aN (Hd) (a9M s h Q) ?_;delta F7 Xw F6 a9L wW iI;have tn: ∀x:Nat,(x:Int).toNat=x:=AE
  refine⟨dA (fun c=>?_) (fun c=>⟨s.length+1,s,0,[],none,⟨by show 0<0+1;decide,.nilslice,rfl,.inl ⟨rfl,rfl,rfl⟩⟩,⟨AR _,IM,IM⟩,⟨fun n hn=>(by cases hn),AR _⟩,fun p y i e h2 l A Z o2=>?_,fun p e h2 l A Z o2=>?_⟩),?_,trivial⟩
  ·have e:fS s=([],6,20000):=if_pos IM;rw [e]at z;exact z
  ·obtain⟨hi,O,a1,hp,G⟩:=U0 IM e;obtain⟨_,lv,u,_⟩:=(show fY h2 0 s p y l from A);have j:fS s=if p<s.length then([],2,(p:Int))else if(aK y).getD i.toNat 0=0 then([],1,0)else if 2000<y.length then([],6,0)else(y,0,0):=by
    unfold fS
    rw [if_neg IM,e]
   refine aB u (bO rfl (dA (fun T=>aB u (bO rfl (.inl ⟨s,p,y,l,p,rfl,A,fun h3 Y f3=>⟨(h3,0,l,p,y,true),IR,IR,IR,IR,⟨⟨Y,Xg ?_⟩,trivial⟩,trivial⟩⟩))) (fun T=>⟨(h2,0,l,p,y,false),IR,IR,IR,IR,⟨⟨A,Xf ⟨?_,O,IS,G⟩⟩,trivial⟩,trivial⟩)))
   ·rw [j,if_pos IM]
   ·rw [j,if_neg IM,show i.toNat=y.length-1 by omega]
  ·obtain⟨lv,a,u⟩:=(show rX h2 0 s p l from A).2.1;have j:fS s=([],2,(p:Int)):=by
    unfold fS
    rw [if_neg IM,e]
   exact aB u (bO rfl (dA (fun T=>aB u (bO rfl (.inr ⟨s,p,l,A,⟨(h2,0,l,p,[],true),IR,IR,IR,IR,⟨⟨A,Xg j⟩,trivial⟩,trivial⟩⟩))) (fun T=>⟨(h2,0,l,p,[],true),IR,IR,IR,IR,⟨⟨A,Xg j⟩,trivial⟩,trivial⟩)))
  ·rintro⟨g,id,io,p,y,b⟩ _ ⟨hC,_⟩;obtain⟨X,L⟩:=(show prC s g id io p y b from hC);dsimp only
   cases b with
   |true=>
    obtain⟨lv,a,u⟩:=(show rX g id s p io from X).2.1;have L:=(show fS s=([],2,(p:Int))from L);rw [L]at z;exact aB u (bO rfl (aC (fun _=>aB u (bO rfl (bO rfl z))) (fun c=>by cases c)))
   |false=>
    obtain⟨_,lv,u,V⟩:=(show fY g id s p y io from X);obtain⟨j,O,a0,G⟩:=(show(fS s=if(aK y).getD (y.length-1) 0=0 then([],1,0)else if 2000<y.length then([],6,0)else(y,0,0))/\0<y.length/\y.length<=20000/\∀n∈y,O5 n from L);rcases V with⟨_,_,e0⟩| ⟨iL,rfl,rfl,t1,t2,t3,t4,t5⟩
    ·rw [e0]at O;exact absurd O IN
    have K:IntKind.i64.wrap ((y.length:Int)-1)=(y.length:Int)-1:=AB _ IM;refine aB u (bO rfl (aC (fun c=>by cases c) (fun _=>aB u (oS rfl (aB u (oS rfl ⟨y,⟨rfl,rfl⟩,⟨fun x hx=>⟨(G x hx).2,trivial⟩,IM,by rw [K];omega,by rw [K];omega⟩,aC (fun D=>?_) (fun D=>aB u (oS rfl (dA (fun c4=>?_) (fun c4=>aB u (oS rfl (aA ?_ ?_))))))⟩))))))
    ·rw [K,show((y.length:Int)-1).toNat=y.length-1 by omega]at D;rw [j,if_pos (eq_of_beq D)]at z;exact z
    ·rw [K,show((y.length:Int)-1).toNat=y.length-1 by omega,beq_eq_false_iff_ne]at D;rw [j,if_neg D,if_pos IM]at z;exact z
    ·simp only [aM,bI,cI,AT]
    ·rw [K,show((y.length:Int)-1).toNat=y.length-1 by omega,beq_eq_false_iff_ne]at D;rw [j,if_neg D,if_neg IM]at z;exact z
 ·exact z.elim
def F8:=aT 17 F5 Ac
theorem Q4:aP env F8:=aF a9N (Hd)
theorem d4A{n:Int}(h:aR n):aR (n.tdiv 16)/\aR (n.tmod 16):=by
 have e:n.tdiv 16*16+n.tmod 16=n:=Int.tdiv_mul_add_tmod n 16;have g:n.tmod 16<16/\ -16<n.tmod 16:=by
  rcases Int.le_total 0 n with c|c
  ·have:=Int.tmod_lt_of_pos n (b:=16) IN;have:=GH (a:=n) 16 c;omega
  ·have:=Int.tmod_lt_of_pos (-n) (b:=16) IN;have:=GH (a:= -n) 16 IM;rw [Int.neg_tmod]at*
   omega
 unfold aR at*
 omega
def dw(n:Int):Int:=IntKind.wrap IntKind.u64 (Int.tdiv n 10)
def db(n:Int):UInt8:=UInt8.ofNat ((IntKind.wrap IntKind.u8 (IntKind.wrap IntKind.u64 ((48:Int)+Int.tmod n 10))).toNat)
def Nk(P:Y11->Prop):Nat->Int->Y11->Prop
 |0,_,_=>False
 |k+1,x,acc=>aJ (dw x==0) (P (db x::acc)) (Nk P k (dw x) (db x::acc))
theorem u64_in{x:Int}(h:0<=x/\x<18446744073709551616):IntKind.u64.wrap x=x:=by
 simp only [IntKind.wrap,IntKind.bits,IntKind.signed];simp;omega
theorem u8_in{x:Int}(h:0<=x/\x<256):IntKind.u8.wrap x=x:=by
 simp only [IntKind.wrap,IntKind.bits,IntKind.signed];simp;omega
theorem Ad{m:Nat}(h:m<18446744073709551616):dw m=((m/10:Nat):Int):=by
 unfold dw
 have:(m:Int).tdiv 10=((m/10:Nat):Int):=by
  rw [EB IM];omega
 rw [this,u64_in IM]
theorem Nl{m:Nat} :db m=UInt8.ofNat (48+m%10):=by
 unfold db
 have:(m:Int).tmod 10=((m%10:Nat):Int):=by
  rw [CP IM];omega
 rw [this,u64_in IM,u8_in IM]
 congr 1
theorem Xx{P:Y11->Prop}(k:Nat): ∀(m:Nat)(g:Y11),m<18446744073709551616->m<10^ (k+1)->P (lS m++g)->Nk P (k+1) m g:=by
 induction k with
 |zero=>
  intro m g j h i;refine aC (fun _=>?_) (fun c=>?_)
  ·rw [uV (by simpa using h)]at i;rw [Nl,HK (by simpa using h)];exact i
  ·rw [Ad j,beq_eq_false_iff_ne]at c;omega
 |succ k ih=>
  intro m g j h i;refine aC (fun c=>?_) (fun c=>?_)
  ·rw [Ad j,beq_iff_eq]at c;have h2:m<10:=IM;rw [uV h2]at i;rw [Nl,HK h2];exact i
  ·rw [Ad j,beq_eq_false_iff_ne]at c;have h2: ¬m<10:=IM;rw [Ad j,Nl];refine ih (m/10) _ IM ?_ ?_
   ·rw [EY IM];rw [Nat.pow_succ]at h;exact h
   ·rw [T5 h2]at i;simpa using i
theorem d4B(n:Int)(h: -9223372036854775808<=n/\n<=9223372036854775807):if n<0 then IntKind.u64.wrap (0-IntKind.u64.wrap n)=(n.natAbs:Int)else IntKind.u64.wrap n=(n.natAbs:Int):=by
 simp only [IntKind.wrap,IntKind.bits,IntKind.signed];split<;>simp<;>omega
theorem cJ: ∀{l:List (Y11)},aM (l.map IV.str)=true
 | []=>rfl
 |_::r=>by simp only [CF,aM,bI,BN];exact cJ
def Ae(xs:Y14)(h:Heap)(K:KT):Prop:=match xs with
 | [.int .u64 n]=>(0<=n/\n<18446744073709551616)/\K (.str (lS n.toNat)) h
 |_=>False
theorem b7U(n:Int)(h:Heap)(Q:KT):dF (aS F8) env 155 (fun k=>match Nat.beq k 4 with|true=>20|false=>0) bS bS [.int .u64 n] h Q=(
 Nk (fun l=>Q (.str l) h) 20 n []):=by kernel_rfl
theorem b7V: ∀xs h Q,Ae xs h Q->aO env 155 xs h Q:=by
 intro xs h Q g;unfold Ae at g;split at g
 ·rename_i n;refine aN (Q4) (b7U n h Q) ?_;obtain⟨⟨h0,i⟩,g⟩:=g;obtain⟨m,rfl⟩:=HS h0;refine Xx 19 m [] IM IM ?_;rw [DK];exact g
 ·exact g.elim
def Af:=aT 155 Ae F8
theorem He:aP env Af:=aF b7V (Q4)
def a9O(xs:Y14)(h:Heap)(K:KT):Prop:=match xs with
 | [.int .i64 n]=>(-9223372036854775808<=n/\n<=9223372036854775807)/\K (.str (jM n)) h
 |_=>False
theorem d4C(n:Int)(h:Heap)(Q:KT):dF (aS Af) env 85 dL bS bS [.int .i64 n] h Q=(
 aJ (decide (n<0)) ((0<=IntKind.wrap .u64 ((0:Int)-IntKind.wrap .u64 n)/\IntKind.wrap .u64 ((0:Int)-IntKind.wrap .u64 n)<18446744073709551616)/\aD (Nat.ble ((1:Nat)+(lS ((IntKind.wrap .u64 ((0:Int)-IntKind.wrap .u64 n)).toNat)).length) 9223372036854775807) (Q (.str ((45:UInt8)::lS ((IntKind.wrap .u64 ((0:Int)-IntKind.wrap .u64 n)).toNat))) h)) ((0<=IntKind.wrap .u64 n/\IntKind.wrap .u64 n<18446744073709551616)/\Q (.str (lS ((IntKind.wrap .u64 n).toNat))) h)):=by kernel_rfl
theorem d4D: ∀xs h Q,a9O xs h Q->aO env 85 xs h Q:=by
 intro xs h Q g;unfold a9O at g;split at g
 ·rename_i n;refine aN (He) (d4C n h Q) ?_;obtain⟨j,g⟩:=g;have i:=d4B n j;have l:=iS j;refine aC (fun c=>?_) (fun c=>?_)
  ·rw [decide_eq_true_eq]at c;rw [if_pos c]at i;rw [i];rw [T6 c]at g l;simp only [AK]at l;refine⟨IM,aA (by rw [AM];simp only [AE];omega) ?_⟩;rw [AE];exact g
  ·rw [decide_eq_false_iff_not]at c;rw [if_neg c]at i;rw [i,AE];rw [Kf IM]at g;exact⟨IM,g⟩
 ·exact g.elim
def a9P:=aT 85 a9O Af
theorem a9Q:aP env a9P:=aF d4D (He)
def Nm(xs:Y14)(h:Heap)(K:KT):Prop:=match xs with
 | [.ptr id 0,.str s]=> ∃(e:Nat)(l:Y15)(b:Y11)(j:Bool),PH h id e l b j/\s.length<=1000000/\∀(h2:Heap)(i:Y11)(g:Bool),PH h2 id e l i g->Tx b j s i g->K (.tuple []) h2
 |_=>False
def xP(id:Nat)(h:Heap)(g:Y14):=h.set id (IObj.cells (List.take 2 g++ [IV.bool true]++List.drop 3 g))
def xQ(id:Nat)(h:Heap)(r1:Y14):=h.set id (IObj.cells (List.take 2 r1++ [IV.bool true]++List.drop 3 r1))
def a9R(s:Y11)(h:Heap):=[IV.vslice (some (h.next)) (s.length*1) s.length 1 (List.map (fun(b:UInt8)=>IV.int .u8 ((UInt8.toNat b):Int)) s)]
def Ag(s:Y11):=IObj.tip (s.length*1)
def Ah(s:Y11):=Nat.beq s.length 0
def a9S(s:Y11):=Nat.ble (s.length*1) 140737488355328
theorem c8B(id:Nat)(s:Y11)(h:Heap)(Q:KT):dF (aS a9P) env 84 dL bS bS [.ptr id 0,.str s] h Q=(
 aE h id fun r0=>bP 1 r0 1 (aJ (decide (wW ((0:Int)+(s.length:Int))>20000)) (aE h id fun r1=>aD (Nat.ble 3 r1.length) (aE (xQ id h r1) id fun r2=>kQ r2 2 fun(b3:Bool)=>aJ (!b3) (aE (xQ id h r1) id fun r4=>bP 1 r4 1 (aJ (Ah s) (aE (xQ id h r1) id fun r5=>aD (Nat.ble 2 r5.length) (Q (.tuple []) ((xQ id h r1).set id (IObj.cells (List.take 1 r5++ [IV.nilslice]++List.drop 2 r5))))) (aD (a9S s) (aE ((xQ id h r1).push (Ag s)) id fun r6=>aD (Nat.ble 2 r6.length) (Q (.tuple []) (((xQ id h r1).push (Ag s)).set id (IObj.cells (List.take 1 r6++(a9R s h)++List.drop 2 r6))))))) fun(i7 e8 l9:Nat)(a6:Y14)=>aJ (Ah s) (aE (xQ id h r1) id fun K=>aD (Nat.ble 2 K.length) (Q (.tuple []) ((xQ id h r1).set id (IObj.cells (List.take 1 K++ [IV.vslice (some i7) e8 l9 1 a6]++List.drop 2 K))))) (cK (xQ id h r1) i7 fun(b5:Nat)=>aD (Nat.beq b5 e8&&Nat.ble ((l9+s.length)*1) 140737488355328) (aE ((xQ id h r1).set i7 (IObj.tip (e8+s.length*1))) id fun L=>aD (Nat.ble 2 L.length) (Q (.tuple []) (((xQ id h r1).set i7 (IObj.tip (e8+s.length*1))).set id (IObj.cells (List.take 1 L++ [IV.vslice (some i7) (e8+s.length*1) (l9+s.length) 1 (a6++List.map (fun(b:UInt8)=>IV.int .u8 ((UInt8.toNat b):Int)) s)]++List.drop 2 L))))))) (Q (.tuple []) (xQ id h r1)))) (aE h id fun c0=>kQ c0 2 fun b0=>aJ (!b0) (aE h id fun c1=>bP 1 c1 1 (aJ (Ah s) (aE h id fun O=>aD (Nat.ble 2 O.length) (Q (IV.tuple []) (h.set id (IObj.cells (List.take 1 O++ [IV.nilslice]++List.drop 2 O))))) (aD (a9S s) (aE (h.push (Ag s)) id fun T=>aD (Nat.ble 2 T.length) (Q (.tuple []) ((h.push (Ag s)).set id (IObj.cells (List.take 1 T++(a9R s h)++List.drop 2 T))))))) fun(p i A:Nat)(a7:Y14)=>aJ (Ah s) (aE h id fun V=>aD (Nat.ble 2 V.length) (Q (.tuple []) (h.set id (IObj.cells (List.take 1 V++ [IV.vslice (some p) i A 1 a7]++List.drop 2 V))))) (cK h p fun(b6:Nat)=>aD (Nat.beq b6 i&&Nat.ble ((A+s.length)*1) 140737488355328) (aE (h.set p (IObj.tip (i+s.length*1))) id fun X=>aD (Nat.ble 2 (X.length)) (Q (.tuple []) ((h.set p (IObj.tip (i+s.length*1))).set id (IObj.cells (List.take 1 X++ [IV.vslice (some p) (i+s.length*1) (A+s.length) 1 (a7++List.map (fun(b:UInt8)=>IV.int .u8 ((UInt8.toNat b):Int)) s)]++List.drop 2 X))))))) (Q (.tuple []) h))) fun(c9 c8 b4:Nat)(c7:Y14)=>aJ (decide (wW ((b4:Int)+(s.length:Int))>20000)) (aE h id fun g=>aD (Nat.ble 3 g.length) (aE (xP id h g) id fun c2=>kQ c2 2 fun b1=>aJ (!b1) (aE (xP id h g) id fun c3=>bP 1 c3 1 (aJ (Ah s) (aE (xP id h g) id fun Y=>aD (Nat.ble 2 Y.length) (Q (.tuple []) ((xP id h g).set id (IObj.cells (List.take 1 Y++ [IV.nilslice]++List.drop 2 Y))))) (aD (a9S s) (aE ((xP id h g).push (Ag s)) id fun Z=>aD (Nat.ble 2 Z.length) (Q (.tuple []) (((xP id h g).push (Ag s)).set id (IObj.cells (List.take 1 Z++(a9R s h)++List.drop 2 Z))))))) fun(u j D:Nat)(a8:Y14)=>aJ (Ah s) (aE (xP id h g) id fun a0=>aD (Nat.ble 2 a0.length) (Q (.tuple []) ((xP id h g).set id (IObj.cells (List.take 1 a0++ [IV.vslice (some u) j D 1 a8]++List.drop 2 a0))))) (cK (xP id h g) u fun(b7:Nat)=>aD (Nat.beq b7 j&&Nat.ble ((D+s.length)*1) 140737488355328) (aE ((xP id h g).set u (IObj.tip (j+s.length*1))) id fun a1=>aD (Nat.ble 2 a1.length) (Q (.tuple []) (((xP id h g).set u (IObj.tip (j+s.length*1))).set id (IObj.cells (List.take 1 a1++ [IV.vslice (some u) (j+s.length*1) (D+s.length) 1 (a8++List.map (fun(b:UInt8)=>IV.int .u8 ((UInt8.toNat b):Int)) s)]++List.drop 2 a1))))))) (Q (.tuple []) (xP id h g)))) (aE h id fun c5=>kQ c5 2 fun b2=>aJ (!b2) (aE h id fun c6=>bP 1 c6 1 (aJ (Ah s) (aE h id fun a2=>aD (Nat.ble 2 a2.length) (Q (.tuple []) (h.set id (IObj.cells (List.take 1 a2++ [IV.nilslice]++List.drop 2 a2))))) (aD (a9S s) (aE (h.push (Ag s)) id fun a3=>aD (Nat.ble 2 a3.length) (Q (.tuple []) ((h.push (Ag s)).set id (IObj.cells (List.take 1 a3++(a9R s h)++List.drop 2 a3))))))) fun(z l G:Nat)(a9:Y14)=>aJ (Ah s) (aE h id fun a4=>aD (Nat.ble 2 a4.length) (Q (IV.tuple []) (h.set id (IObj.cells (List.take 1 a4++ [IV.vslice (some z) l G 1 a9]++List.drop 2 a4))))) (cK h z fun(b9:Nat)=>aD (Nat.beq b9 l&&Nat.ble ((G+s.length)*1) 140737488355328) (aE (h.set z (IObj.tip (l+s.length*1))) id fun a5=>aD (Nat.ble 2 a5.length) (Q (.tuple []) ((h.set z (IObj.tip (l+s.length*1))).set id (IObj.cells (List.take 1 a5++ [IV.vslice (some z) (l+s.length*1) (G+s.length) 1 (a9++List.map (fun(b:UInt8)=>IV.int .u8 ((UInt8.toNat b):Int)) s)]++List.drop 2 a5))))))) (Q (.tuple []) h))):=by kernel_rfl
theorem c8C: ∀xs h Q,Nm xs h Q->aO env 84 xs h Q:=by
 intro xs h Q i;unfold Nm at i;split at i
 ·rename_i id s;obtain⟨e,l,b,L,X,Y,i⟩:=i;refine aN (a9Q) (c8B id s h Q) ?_;delta xP xQ a9R Ag Ah a9S wW;obtain⟨g,u,Z,p,D⟩:=(show PH h id e l b L from X);have O:b.length+s.length>20000->Tx b L s b true:=fun z=>by
   unfold Tx
   cases L
   ·rw [if_neg CG,if_neg IM]
   ·rw [if_pos rfl]
  have A:b.length+s.length<=20000->Tx b false s (b++s) false:=fun z=>by
   unfold Tx
   rw [if_neg CG,if_pos z];exact⟨rfl,rfl⟩
  have j:=D;refine aB p ?_;rcases D with⟨rfl,rfl⟩| ⟨ib,rfl,T,V,G,K⟩
  ·refine cO rfl (aC (fun c=>?_) (fun c=>?_))
   ·refine aB p (aA rfl (aB aH ?_));exact i _ _ true (PH.put g u j) (O (by
     rw [decide_eq_true_eq,AB _ IM]at c
     try simp only [AY]
     omega))
   ·have z:s.length<=20000:=by
     rw [decide_eq_false_iff_not,AB _ IM]at c;omega
    refine aB p ?_;show aJ (!L) _ _;refine aC (fun d=>?_) (fun d=>?_)
    ·rw [CH]at d;subst d;refine aB p (cO rfl (aC (fun e=>?_) (fun e=>?_)))
     ·obtain rfl:s=[]:=BZ (bK.1 e);refine aB p (aA rfl ?_);exact i _ [] false (PH.put g u (.inl ⟨rfl,rfl⟩)) (A IP)
     ·have h0:0<s.length:=GW fun q=>by rw [q]at e;cases e
      refine aA (by rw [AM];omega) (aB ((aL g).trans p) (aA rfl ?_));exact i _ s false (PH.new g z h0) (A (by simpa using z))
    ·rw [CV]at d;subst d;exact i _ _ true X Tx.long
  ·refine bZ rfl (aC (fun c=>?_) (fun c=>?_))
   ·refine aB p (aA rfl (aB aH ?_));exact i _ _ true (PH.put g u j) (O (by
     rw [decide_eq_true_eq,AB _ IM]at c
     try simp only [AY]
     omega))
   ·have z:b.length+s.length<=20000:=by
     rw [decide_eq_false_iff_not,AB _ IM]at c;omega
    refine aB p ?_;show aJ (!L) _ _;refine aC (fun d=>?_) (fun d=>?_)
    ·rw [CH]at d;subst d;refine aB p (bZ rfl (aC (fun e=>?_) (fun e=>?_)))
     ·obtain rfl:s=[]:=BZ (bK.1 e);refine aB p (aA rfl ?_);refine i _ b false (PH.put g u j) ?_;have:=A (by simpa using z)
      rwa [DK]at this
     ·refine aV T (aA (by simp only [AO,AF,bK,AM,true_and];omega) (aB ((aG G.symm).trans p) (aA rfl ?_)));exact i _ (b++s) false (PH.more g z V G K) (A z)
    ·rw [CV]at d;subst d;exact i _ _ true X Tx.long
 ·exact i.elim
def Nn:=aT 84 Nm a9P
theorem Us:aP env Nn:=aF c8C (a9Q)
def Ai(xs:Y14)(h:Heap)(K:KT):Prop:=match xs with
 | [.vslice none e1 n1 3 c1,.int .i64 i]=> ∃l:Y15,(n1=l.length/\c1=l.flatMap cN)/\¬ (0<=i/\i< (l.length:Int))/\K (.int .i64 0) h
 |_=>False
theorem b7W(l:Y15)(i:Int)(g:Nat)(h:Heap)(Q:KT):dF (aS Nn) env 41 dL bS bS [.vslice none g (l).length 3 ((l).flatMap cN),.int .i64 i] h Q=(
 aD (aM [IV.vslice none 0 l.length 3 (List.flatMap cN l),iI i]) (aJ (decide (i<0)) (Q (.int .i64 0) h) (aJ (decide (i>=(l.length:Int))) (Q (.int .i64 0) h) (aD (true&& (decide (0<=wW (i+1)) &&decide (wW (i+1)<=(l.length:Int)))) False)))):=by kernel_rfl
theorem Ut: ∀xs h Q,Ai xs h Q->aO env 41 xs h Q:=by
 intro xs h Q g;unfold Ai at g;split at g
 ·rename_i j A u i;obtain⟨l,⟨rfl,rfl⟩,p,g⟩:=g;refine aN (Us) (b7W l i j h Q) ?_;delta wW iI;refine aA (by simp only [aM,bI,cI,AT]) (dA (fun _=>g) (fun c=>dA (fun _=>g) (fun z=>absurd ⟨IM,IM⟩ p)))
 ·exact g.elim
def Uu:=aT 41 Ai Nn
theorem a9T:aP env Uu:=aF Ut (Us)
def Aj(xs:Y14)(h:Heap)(K:KT):Prop:=match xs with
 | [.vslice none e1 n1 3 c1,.int .i64 i]=> ∃l:Y15,(n1=l.length/\c1=l.flatMap cN)/\((∀x∈l,x.ks.length<=1000000)/\l.length<=1000000)/\K (.int .i64 (if 0<=i/\i< (l.length:Int)then(aK l).getD i.toNat 0 else 0)) h
 |_=>False
theorem b7X: ∀xs h Q,Aj xs h Q->aO env 41 xs h Q:=by
 intro xs h Q g;unfold Aj at g;split at g
 ·rename_i z A u i;obtain⟨l,⟨rfl,rfl⟩,j,g⟩:=g
  by_cases c:0<=i/\i< (l.length:Int)
  ·rw [if_pos c]at g;exact a5X _ _ _ ⟨l,⟨rfl,rfl⟩,⟨fun x p=>⟨j.1 x p,trivial⟩,j.2,c.1,c.2⟩,g⟩
  ·rw [if_neg c]at g;exact Ut _ _ _ ⟨l,⟨rfl,rfl⟩,c,g⟩
 ·exact g.elim
def Ak:=aT 41 Aj Uu
theorem Hf:aP env Ak:=aF b7X (a9T)
def d7Y(id i e:Nat)(l:Y15)(b:Y11)(g:Bool):Inv':=eY (Nat×Heap×Y11×Bool) (fun x=>[(0,.v (.ptr id 0)),(76,.v (.vslice none 0 ((l.getD i default).ks).length 1 (((l.getD i default).ks).map (IV.int .i64)))),(77,.v (.int .i64 (l.getD i default).ks.length)),(78,.v (.int .i64 x.1))]) (fun _=>[]) (fun x=>x.2.1)
 (fun x=>x.1<=(l.getD i default).ks.length/\PH x.2.1 id e l x.2.2.1 x.2.2.2/\Tx b g (40::(yZ (l.getD i default).op (l.getD i default).im++sN (sC l) ((l.getD i default).ks.take x.1))) x.2.2.1 x.2.2.2) (fun x=>(l.getD i default).ks.length-x.1)
def vN(d:Nat)(xs:Y14)(h:Heap)(K:KT):Prop:=match xs with
 | [.ptr id 0,.int .i64 i]=> ∃(e:Nat)(l:Y15)(b:Y11)(p:Bool),PH h id e l b p/\(0<=i/\i<d/\i<l.length/\(aK l).getD i.toNat 0≠0)/\D7 l/\∀(h2:Heap)(j:Y11)(g:Bool),PH h2 id e l j g->Tx b p (pU l i.toNat) j g->K (.tuple []) h2
 |_=>False
def mR(i:Int)(l:Y15):=List.getD l i.toNat default
abbrev c8D(id e:Nat)(i:Int)(l:Y15)(b:Y11)(j:Bool)(g:Nat×Heap×Y11×Bool):=g.1<=List.length (Nd.ks (mR i l))/\PH g.2.1 id e l g.2.2.1 g.2.2.2/\Tx b j ((40:UInt8)::(yZ (Nd.op (mR i l)) (Nd.im (mR i l))++sN (sC l) (List.take g.1 (Nd.ks (mR i l))))) g.2.2.1 g.2.2.2
def b7Y(i:Int)(l:Y15):=TV.v (.vslice none 0 ((Nd.ks (mR i l)).length) 1 (List.map (IV.int .i64) (Nd.ks (mR i l))))
def c8E(id:Nat)(Q:KT)(x:Nat×Heap×Y11×Bool):=(∃(e:Nat)(l:Y15)(b:Y11)(j:Bool),PH x.2.1 id e l b j/\(1:Nat)<=1000000/\∀(h2:Heap)(i:Y11)(g:Bool),PH h2 id e l i g->Tx b j [41] i g->Q (.tuple []) h2)
def a9U(g:Int):=wW (Int.tdiv g 16)
def c8F(g:Int):=(118:UInt8)::((((([]++(jM (a9U g))))++(Array.toList (ByteArray.data (ByteArray.mk #[46])))))++(jM (Int.tmod g 16)))
abbrev b7Z(g:Int):=(-9223372036854775808:Int)<=g/\g<=9223372036854775807
abbrev a9V(i:Int)(l:Y15)(x:Nat×Heap×Y11×Bool):=(x.1:Int)< (↑((Nd.ks (mR i l)).length):Int)
def b8A(i:Int)(l:Y15):=TV.v (.int .i64 (↑((Nd.ks (mR i l)).length):Int))
def Al(x:Nat×Heap×Y11×Bool):=x.2.2
def c8G(g:Int):=Nat.ble ((1:Nat)+(jM g).length) 9223372036854775807
def a9W(id:Nat):=TV.v (.ptr id 0)
def a9X(b:Y11)(j:Y14)(e p id g:Nat)(h2:Heap)(i:Int)(z:Y10)(l:Y15)(A:Bool):Prop:= ∃(u:Nat×Heap×Y11×Bool),some (a9W id)=some (a9W id)/\some (TV.v (.vslice z p g 1 j))=some (b7Y i l)/\tI (g:Int)=some (b8A i l)/\tI 0=tI (u.1:Int)/\h2=u.2.1/\(c8D id e i l b A u)/\True
def a9Y(b:Y11)(e id:Nat)(h2:Heap)(i:Int)(l:Y15)(j:Bool)(x:Nat×Heap×Y11×Bool):Prop:= ∃(g:Nat×Heap×Y11×Bool),some (a9W id)=some (a9W id)/\some (b7Y i l)=some (b7Y i l)/\some (b8A i l)=some (b8A i l)/\tI (wW ((x.1:Int)+1))=tI (g.1:Int)/\h2=g.2.1/\(c8D id e i l b j g)/\List.length (Nd.ks (mR i l))-g.1< (Nd.ks (mR i
 l)).length-x.1
theorem b8B(dd:Nat)(id:Nat)(i:Int)(e:Nat)(l:Y15)(b:Y11)(z:Bool)(h:Heap)(Q:KT):dF (aS (aT 42 (vN dd) Ak)) env 42 dL (kR 17 (d7Y id i.toNat e l b z)) bS [.ptr id 0,.int .i64 i] h Q=(
 aE h id fun r0=>kQ r0 2 fun b1=>aJ b1 (Q (.tuple []) h) (aE h id fun r2=>aX 3 r2 0 fun(i3:Y10)(e4 l5:Nat)(c6:Y14)=>aD (decide (0<=i) &&decide (i< (l5:Int))) (aI .i64 c6 (i.toNat*3) fun Y=>aI .i64 c6 (i.toNat*3+1) fun p=>aX 1 c6 (i.toNat*3+1+1) fun(i9:Y10)(a6 a9:Nat)(a5:Y14)=>aJ (Y==1) ((b7Z p)/\∃(e:Nat)(l:Y15)(b:Y11)(z:Bool),PH h id e l b z/\List.length (jM p)<=1000000/\∀(h2:Heap)(j:Y11)(g:Bool),PH h2 id e l j g->Tx b z (jM p) j g->Q (.tuple []) h2) (aJ (Y==2) ((b7Z p)/\aD (c8G p) (∃(e:Nat)(l:Y15)(b:Y11)(z:Bool),PH h id e l b z/\List.length ((112:UInt8)::jM p)<=1000000/\∀(h2:Heap)(j:Y11)(g:Bool),PH h2 id e l j g->Tx b z ((112:UInt8)::jM p) j g->Q (.tuple []) h2)) (aJ (Y==3) (((-9223372036854775808:Int)<=wW (Int.tdiv p 16)/\wW (Int.tdiv p 16)<=9223372036854775807)/\aD (Nat.ble ((1:Nat)+(jM (a9U p)).length) 9223372036854775807) (aD (Nat.ble (((118:UInt8)::jM (a9U p)).length+1) 9223372036854775807) (((-9223372036854775808:Int)<=Int.tmod p 16/\Int.tmod p 16<=9223372036854775807)/\aD (Nat.ble (((118:UInt8)::((([]++(jM (a9U p))))++ [46])).length+(jM (Int.tmod p 16)).length) 9223372036854775807) (∃(e:Nat)(l:Y15)(b:Y11)(z:Bool),PH h id e l b z/\List.length (c8F p)<=1000000/\∀(h2:Heap)(j:Y11)(g:Bool),PH h2 id e l j g->Tx b z (c8F p) j g->Q (.tuple []) h2)))) (aJ (Y==26) (∃(e:Nat)(l:Y15)(b:Y11)(z:Bool),PH h id e l b z/\(5:Nat)<=1000000/\∀(h2:Heap)(j:Y11)(g:Bool),PH h2 id e l j g->Tx b z [115,116,97,114,116] j g->Q (.tuple []) h2) (aR Y/\aD (Nat.ble ((1:Nat)+(Cb Y).length) 9223372036854775807) (∃(a7:Nat)(b0:Y15)(a3:Y11)(Z:Bool),PH h id a7 b0 a3 Z/\List.length ((40:UInt8)::Cb Y)<=1000000/\∀(h2:Heap)(j:Y11)(g:Bool),PH h2 id a7 b0 j g->Tx a3 Z ((40:UInt8)::Cb Y) j g->aJ (nM Y) ((b7Z p)/\aD (c8G p) (∃(L:Nat)(T:Y15)(a1:Y11)(A:Bool),PH h2 id L T a1 A/\List.length ((46:UInt8)::jM p)<=1000000/\∀(h2:Heap)(j:Y11)(g:Bool),PH h2 id L T j g->Tx a1 A ((46:UInt8)::jM p) j g->(a9X b a5 e a6 id a9 h2 i i9 l z)/\∀(x:Nat×Heap×Y11×Bool)(a2:FF),x.1<=List.length (Nd.ks (mR i l))/\PH x.2.1 id e l ((Al x).1) ((Al x).2)/\Tx b z ((40:UInt8)::(yZ (Nd.op (mR i l)) (Nd.im (mR i l))++sN (sC l) (List.take x.1 (Nd.ks (mR i l))))) ((Al x).1) ((Al x).2)->aJ (decide (a9V i l x)) (aD (decide (0<=(x.1:Int)) &&decide (a9V i l x)) (aI .i64 (List.map (IV.int .i64) (Nd.ks (mR i l))) ((x.1:Int).toNat*1) fun V=> ∃(O:Nat)(u:Y15)(K:Y11)(D:Bool),PH x.2.1 id O u K D/\(1:Nat)<=1000000/\∀(h2:Heap)(j:Y11)(g:Bool),PH h2 id O u j g->Tx K D [32] j g-> ∃(a8:Nat)(G:Y15)(a4:Y11)(a0:Bool),PH h2 id a8 G a4 a0/\(0<=V/\V< (dd:Int)/\V< (G.length:Int)/\List.getD (aK G) V.toNat 0≠0)/\D7 G/\∀(h2:Heap)(j:Y11)(g:Bool),PH h2 id a8 G j g->Tx a4 a0 (pU G V.toNat) j g->a9Y b e id h2 i l z x)) (c8E id Q x))) ((a9X b a5 e a6 id a9 h2 i i9 l z)/\∀(x:Nat×Heap×Y11×Bool)(a1:FF),x.1<=List.length (Nd.ks (mR i l))/\PH x.2.1 id e l ((Al x).1) ((Al x).2)/\Tx b z ((40:UInt8)::(yZ (Nd.op (mR i l)) (Nd.im (mR i l))++sN (sC l) (List.take x.1 (Nd.ks (mR i l))))) ((Al x).1) ((Al x).2)->aJ (decide (a9V i l x)) (aD (decide (0<=(x.1:Int)) &&decide (a9V i l x)) (aI .i64 (List.map (IV.int .i64) (Nd.ks (mR i l))) ((x.1:Int).toNat*1) fun X=> ∃(L:Nat)(T:Y15)(a2:Y11)(A:Bool),PH x.2.1 id L T a2 A/\(1:Nat)<=1000000/\∀(h2:Heap)(j:Y11)(g:Bool),PH h2 id L T j g->Tx a2 A [32] j g-> ∃(O:Nat)(u:Y15)(K:Y11)(D:Bool),PH h2 id O u K D/\(0<=X/\X< (dd:Int)/\X< (u.length:Int)/\List.getD (aK u) X.toNat 0≠(0:Int))/\D7 u/\∀(h2:Heap)(j:Y11)(g:Bool),PH h2 id O u j g->Tx K D (pU u X.toNat) j g->a9Y b e id h2 i l z x)) (c8E id Q x)))))))))):=by kernel_rfl
theorem b8C: ∀d xs h Q,vN d xs h Q->aO env 42 xs h Q:=by
 intro d
 induction d with
 |zero=>
  intro xs h Q z;unfold vN at z;split at z
  ·rename_i id i;obtain⟨e,l,b,D,X,hi,hg,z⟩:=z;have:=hi.2.1;omega
  ·exact z.elim
 |succ dd ih=>
  intro xs h Q z;unfold vN at z;split at z
  ·rename_i id i;obtain⟨e,l,b,D,X,hi,hg,z⟩:=z;refine aN (aF ih (Hf)) (b8B dd id i e l b D h Q) ?_;delta a9X a9Y mR c8D b7Y c8E c8F b7Z a9V b8A a9U Al c8G a9W tI wW;have tn: ∀x:Nat,(x:Int).toNat=x:=AE
   obtain⟨a3,a4,a5,hz⟩:=hi;have a0:=hg;obtain⟨hn,a7⟩:=hg;have T:i.toNat<l.length:=IM;have w:=wfN T hz;have eD:l.getD i.toNat default=l[i.toNat]:=Go.M14.mF T;have wk:=w.ks;have wl:=w.leaf;have wn:=w.node;obtain⟨a2,L,a6⟩:=hn _ (AG T);have a9:=iS L;simp only [eD]at wk wl wn⊢;obtain⟨b7,b0,bv,pg,b1⟩:=(show PH h id e l b D from X);refine aB pg ?_;show aJ D _ _;refine aC (fun c=>?_) (fun c=>?_)
   ·subst c;exact z _ _ true X Tx.long
   refine aB pg (oS rfl (aA (by simp;omega) (oR T rfl ?_)));have leaf: ∀s,lf l[i.toNat].op=true->lfT l[i.toNat].op l[i.toNat].im=s-> ∀h2 G p,PH h2 id e l G p->Tx b D s G p->Q (.tuple []) h2:=fun s h1 h2 g2 G p p2 t2=>z g2 G p p2 (by rw [wl h1,h2];exact t2)
   refine aC (fun c1=>?_) (fun c1=>aC (fun c2=>?_) (fun c2=>aC (fun c3=>?_) (fun c3=>aC (fun c4=>?_) (fun c4=>?_))))
   ·rw [beq_iff_eq]at c1;exact⟨L,e,l,b,D,X,IM,leaf _ (by rw [c1];rfl) (by rw [c1];rfl)⟩
   ·rw [beq_iff_eq]at c2;exact⟨L,aA (by rw [AM];omega) ⟨e,l,b,D,X,by rw [AK];omega,leaf _ (by rw [c2];rfl) (by rw [c2];rfl)⟩⟩
   ·rw [beq_iff_eq]at c3;have ht:=d4A L;have hw:IntKind.i64.wrap (l[i.toNat].im.tdiv 16)=l[i.toNat].im.tdiv 16:=AB _ ht.1;have l1:=iS ht.1;have l2:=iS ht.2;simp only [hw];have hL: ∀s t:Y11,((118::s)++ [46]++t).length=s.length+t.length+2:=fun s t=>by simp;omega
    have hQ:((118::jM (l[i.toNat].im.tdiv 16))++ [46]).length+(jM (l[i.toNat].im.tmod 16)).length<=9223372036854775807:=by
     have:=hL (jM (l[i.toNat].im.tdiv 16)) (jM (l[i.toNat].im.tmod 16));rw [AH]at this;omega
    have hR:((118::jM (l[i.toNat].im.tdiv 16))++ [46]++jM (l[i.toNat].im.tmod 16)).length<=1000000:=by
     rw [hL];omega
    refine⟨ht.1,aA (by rw [AM];omega) (aA (by rw [AM,AK];omega) ⟨ht.2,aA (by rw [AM];exact hQ) ⟨e,l,b,D,X,hR,fun g2 G p p2 t2=>leaf (118::(jM (l[i.toNat].im.tdiv 16)++46::jM (l[i.toNat].im.tmod 16))) (by rw [c3];rfl) (by rw [c3];rfl) g2 G p p2 ?_⟩⟩)⟩;have t3:Tx b D ((118::jM (l[i.toNat].im.tdiv 16))++ [46]++jM (l[i.toNat].im.tmod 16)) G p:=t2;simpa using t3
   ·rw [beq_iff_eq]at c4;exact⟨e,l,b,D,X,IN,leaf _ (by rw [c4];rfl) (by rw [c4];rfl)⟩
   ·rw [beq_eq_false_iff_ne]at c1 c2 c3 c4;have hf:lf l[i.toNat].op=false:=by
     unfold lf
     rw [decide_eq_false_iff_not];omega
    have a8:=T8 l[i.toNat].op;refine⟨a2,aA (by rw [AM];omega) ⟨e,l,b,D,X,by rw [AK];omega,fun h2 G p p2 t2=>aC (fun ch=>⟨L,aA (by rw [AM];omega) ⟨e,l,G,p,p2,by rw [AK];omega,fun h3 b3 a1 p3 t3=>?_⟩⟩) (fun ch=>?_)⟩⟩
    ·replace t3:Tx b D (40::yZ l[i.toNat].op l[i.toNat].im) b3 a1:=by
      have:=t2.trans t3;unfold yZ
      rw [if_pos ch];exact this
     ·refine⟨⟨(0,h3,b3,a1),IR,IR,IR,IR,IR,⟨AR _,p3,?_⟩,trivial⟩,?_⟩
      ·rw [show sN (sC l) (l[i.toNat].ks.take 0)=[]from rfl,DK];exact t3
      rintro⟨j,g,b4,O⟩ _ ⟨hj,p4,V⟩;dsimp only at hj p4 V⊢;refine aC (fun c=>?_) (fun c=>?_)
      ·rw [decide_eq_true_eq]at c;have u:j<l[i.toNat].ks.length:=IM;have K:=wk _ (AG u);refine aA (by simp;omega) (fT u (by rw [AO,tn]) ⟨e,l,b4,O,p4,IN,fun h5 Y A p5 t5=>⟨e,l,Y,A,p5,⟨K.1,IM,IM,K.2.2⟩,a0,fun h6 b6 Z p6 t6=>⟨(j+1,h6,b6,Z),IR,IR,IR,?_,IR,⟨u,p6,?_⟩,IS⟩⟩⟩)
       ·rw [AB _ IM];rfl
       ·have:=V.trans (t5.trans t6);rw [uX u];simpa [pU]using this
      ·rw [decide_eq_false_iff_not]at c;refine⟨e,l,b4,O,p4,IN,fun h5 Y A p5 t5=>z h5 Y A p5 ?_⟩;rw [AP IM]at V;rw [wn hf];exact V.trans t5
    ·have t3:Tx b D (40::yZ l[i.toNat].op l[i.toNat].im) G p:=by
      unfold yZ
      rw [if_neg (by rw [ch];exact CG),DK];exact t2
     ·refine⟨⟨(0,h2,G,p),IR,IR,IR,IR,IR,⟨AR _,p2,?_⟩,trivial⟩,?_⟩
      ·rw [show sN (sC l) (l[i.toNat].ks.take 0)=[]from rfl,DK];exact t3
      rintro⟨j,g,b4,O⟩ _ ⟨hj,p4,V⟩;dsimp only at hj p4 V⊢;refine aC (fun c=>?_) (fun c=>?_)
      ·rw [decide_eq_true_eq]at c;have u:j<l[i.toNat].ks.length:=IM;have K:=wk _ (AG u);refine aA (by simp;omega) (fT u (by rw [AO,tn]) ⟨e,l,b4,O,p4,IN,fun h5 Y A p5 t5=>⟨e,l,Y,A,p5,⟨K.1,IM,IM,K.2.2⟩,a0,fun h6 b6 Z p6 t6=>⟨(j+1,h6,b6,Z),IR,IR,IR,?_,IR,⟨u,p6,?_⟩,IS⟩⟩⟩)
       ·rw [AB _ IM];rfl
       ·have:=V.trans (t5.trans t6);rw [uX u];simpa [pU]using this
      ·rw [decide_eq_false_iff_not]at c;refine⟨e,l,b4,O,p4,IN,fun h5 Y A p5 t5=>z h5 Y A p5 ?_⟩;rw [AP IM]at V;rw [wn hf];exact V.trans t5
  ·exact z.elim
def Am:=aT 42 (fun xs h K=> ∃d,vN d xs h K) Ak
theorem Hg:aP env Am:=aF (fun xs h Q g=>g.elim fun d g=>b8C d xs h Q g) (Hf)
def An(xs:Y14)(h:Heap)(K:KT):Prop:=match xs with
 | [.vslice none e1 n1 3 c1,.int .i64 i]=> ∃l:Y15,(n1=l.length/\c1=l.flatMap cN)/\D7 l/\K (.str (D8 l i)) h
 |_=>False
theorem b8D(l:Y15)(i:Int)(G:Nat)(h:Heap)(Q:KT):dF (aS Am) env 13 dL bS bS [.vslice none G (l).length 3 ((l).flatMap cN),.int .i64 i] h Q=(
 aD (aM [IV.vslice none 0 l.length 3 (List.flatMap cN l),iI i]) (∃(g:Y15),(l.length=g.length/\List.flatMap cN l=List.flatMap cN g)/\((∀(x:Nd),x∈g->List.length (Nd.ks x)<=1000000)/\g.length<=1000000)/\aJ ((if 0<=i/\i< (g.length:Int)then List.getD (aK g) i.toNat 0 else(0:Int))==0) (Q (.str []) h) (∃(d e:Nat)(j:Y15)(b:Y11)(z:Bool),PH (Heap.mk (PT.node PT.nil (some (IObj.cells [IV.vslice none 0 l.length 3 (List.flatMap cN l),IV.nilslice,IV.bool false])) PT.nil) ((0:Nat)+1)) 0 e j b z/\(0<=i/\i< (d:Int)/\i< (j.length:Int)/\List.getD (aK j) i.toNat 0≠0)/\D7 j/\∀(h2:Heap)(u:Y11)(p:Bool),PH h2 0 e j u p->Tx b z (pU j i.toNat) u p->aE h2 0 fun r0=>kQ r0 2 fun A=>aJ A (Q (.str []) h) (aE h2 0 fun K=>bP 1 K 1 (Q (.str []) h) fun(T O V:Nat)(D:Y14)=>Da D fun(L:Y11)=>Q (.str L) h)))):=by kernel_rfl
theorem b8E: ∀xs h Q,An xs h Q->aO env 13 xs h Q:=by
 intro xs h Q g;unfold An at g;split at g
 ·rename_i V n1 c1 i;obtain⟨l,⟨rfl,rfl⟩,L,g⟩:=g;refine aN (Hg) (b8D l i V h Q) ?_;delta iI;have A:=L;obtain⟨Y,D⟩:=L;have X: ∀v,D8 l i=v->Q (.str v) h:=fun v e=>by rw [e]at g;exact g
  refine aA (by simp only [aM,bI,cI,AT]) ⟨l,⟨rfl,rfl⟩,⟨fun x z=>(Y x z).2.2,D⟩,aC (fun c=>X [] ?_) (fun c=>?_)⟩
  ·unfold D8
   refine if_neg fun q=>?_
   rw [if_pos ⟨q.1,q.2.1⟩,beq_iff_eq]at c;exact q.2.2.1 c
  obtain⟨p,u,O⟩:0<=i/\i< (l.length:Int)/\(aK l).getD i.toNat 0≠0:=by
   rw [beq_eq_false_iff_ne]at c
   by_cases q:0<=i/\i< (l.length:Int)
   ·rw [if_pos q]at c;exact⟨q.1,q.2,c⟩
   ·rw [if_neg q]at c;exact absurd rfl c
  refine⟨i.toNat+1,0,l,[],false,⟨Nat.one_pos,IP,.nilslice,rfl,.inl ⟨rfl,rfl⟩⟩,⟨p,IM,u,O⟩,A,fun h2 b2 G Z j=>?_⟩;obtain⟨a1,a0,bv,T,K⟩:=Z;unfold Tx at j;simp only [BA,if_false,AY,DY,BT]at j;refine aB T ?_;show aJ G _ _;unfold D8 at g;refine aC (fun c=>?_) (fun c=>?_)
  ·subst c;split at j
   ·exact absurd j.1 IN
   ·rename_i z;rw [if_neg fun q=>z q.2.2.2]at g;exact g
  ·subst c;split at j
   ·rename_i z;rw [if_pos ⟨p,u,O,z⟩]at g;obtain⟨_,rfl⟩:=j;refine aB T ?_;rcases K with⟨rfl,q⟩| ⟨ib,rfl,_⟩
    ·rw [q]at g;exact cO rfl g
    ·exact bZ rfl (rU (Dt _) g)
   ·exact absurd j IN
 ·exact g.elim
def Ao:=aT 13 An Am
theorem Hh:aP env Ao:=aF b8E (Hg)
def Ap(xs:Y14)(h:Heap)(K:KT):Prop:=match xs with
 | [.vslice none e1 n1 3 c1,.int .i64 i]=> ∃l:Y15,(n1=l.length/\c1=l.flatMap cN)/\¬ (0<=i/\i< (l.length:Int))/\K (.int .i64 0) h
 |_=>False
theorem b8F(l:Y15)(i:Int)(g:Nat)(h:Heap)(Q:KT):dF (aS Ao) env 49 dL bS bS [.vslice none g (l).length 3 ((l).flatMap cN),.int .i64 i] h Q=(
 aD (aM [IV.vslice none 0 l.length 3 (List.flatMap cN l),iI i]) (aJ (decide (i<0)) (Q (.int .i64 0) h) (aJ (decide (i>=(l.length:Int))) (Q (.int .i64 0) h) (aD (true&& (decide (0<=wW (i+1)) &&decide (wW (i+1)<=(l.length:Int)))) False)))):=by kernel_rfl
theorem Uv: ∀xs h Q,Ap xs h Q->aO env 49 xs h Q:=by
 intro xs h Q g;unfold Ap at g;split at g
 ·rename_i j A u i;obtain⟨l,⟨rfl,rfl⟩,p,g⟩:=g;refine aN (Hh) (b8F l i j h Q) ?_;delta wW iI;refine aA (by simp only [aM,bI,cI,AT]) (dA (fun _=>g) (fun c=>dA (fun _=>g) (fun z=>absurd ⟨IM,IM⟩ p)))
 ·exact g.elim
def Uw:=aT 49 Ap Ao
theorem a9Z:aP env Uw:=aF Uv (Hh)
def Aq(xs:Y14)(h:Heap)(K:KT):Prop:=match xs with
 | [.vslice none e1 n1 3 c1,.int .i64 i]=> ∃l:Y15,(n1=l.length/\c1=l.flatMap cN)/\((∀x∈l,x.ks.length<=1000000)/\l.length<=1000000)/\K (.int .i64 (if 0<=i/\i< (l.length:Int)then(aK l).getD i.toNat 0 else 0)) h
 |_=>False
theorem b8G: ∀xs h Q,Aq xs h Q->aO env 49 xs h Q:=by
 intro xs h Q g;unfold Aq at g;split at g
 ·rename_i z A u i;obtain⟨l,⟨rfl,rfl⟩,j,g⟩:=g
  by_cases c:0<=i/\i< (l.length:Int)
  ·rw [if_pos c]at g;exact X2 _ _ _ ⟨l,⟨rfl,rfl⟩,⟨fun x p=>⟨j.1 x p,trivial⟩,j.2,c.1,c.2⟩,g⟩
  ·rw [if_neg c]at g;exact Uv _ _ _ ⟨l,⟨rfl,rfl⟩,c,g⟩
 ·exact g.elim
def Ar:=aT 49 Aq Uw
theorem Hi:aP env Ar:=aF b8G (a9Z)
def dyA(l:Y15)(i:Int):Inv':=eY (Nat×Heap×Nat×Y13) (fun x=>[(0,.v (.vslice none 0 (l).length 3 ((l).flatMap cN))),(1,.v (.int .i64 i)),(5,.v (.hslice x.2.2.1 0 (i.toNat+1) 1)),(6,.v (.int .i64 ((x.1:Int)-1)))]) (fun _=>[]) (fun x=>x.2.1) (fun x=>wA l i.toNat x.1 x.2.2.2/\J3 x.2.1 x.2.2.1 x.2.2.2) (fun x=>x.1)
def dyB(l:Y15)(i:Int):Inv':=eY (Nat×Heap×Nat×Y13×Nat) (fun x=>[(0,.v (.vslice none 0 (l).length 3 ((l).flatMap cN))),(1,.v (.int .i64 i)),(5,.v (.hslice x.2.2.1 0 (i.toNat+1) 1)),(6,.v (.int .i64 (x.1:Int))),(7,.v (.int .i64 (x.2.2.2.2:Int)))]) (fun _=>[]) (fun x=>x.2.1) (fun x=>wA l i.toNat (x.1+1) x.2.2.2.1/\J3 x.2.1 x.2.2.1 x.2.2.2.1/\(x.2.2.2.2<=(l.getD x.1 default).ks.length/\∀q,q<x.2.2.2.2-> ∀k,(l.getD x.1 default).ks[q]?=some k->x.2.2.2.1[k.toNat]?=some true)) (fun x=>x.1*1000001+((l.getD x.1 default).ks.length-x.2.2.2.2))
def dyC(l:Y15)(i:Int):Inv':= .or
 (eY (Nat×Heap×Nat×Y13) (fun x=>[(1,.v (.int .i64 i)),(5,.v (.hslice x.2.2.1 0 (i.toNat+1) 1)),(8,.v .nilslice),(9,.v (.int .i64 (x.1:Int)))]) (fun _=>[]) (fun x=>x.2.1) (fun x=>(x.1<=i.toNat+1/\cR x.2.2.2 x.1=[])/\J3 x.2.1 x.2.2.1 x.2.2.2/\wA l i.toNat 0 x.2.2.2) (fun x=>i.toNat+1-x.1))
 (eY (Nat×Heap×Nat×Y13×Nat) (fun x=>[(1,.v (.int .i64 i)),(5,.v (.hslice x.2.2.1 0 (i.toNat+1) 1)),(8,.v (.vslice (some x.2.2.2.2) (cR x.2.2.2.1 x.1).length (cR x.2.2.2.1 x.1).length 1 ((cR x.2.2.2.1 x.1).map (IV.int .i64)))),(9,.v (.int .i64 (x.1:Int)))]) (fun _=>[]) (fun x=>x.2.1) (fun x=>(x.1<=i.toNat+1/\J3 x.2.1 x.2.2.1 x.2.2.2.1/\wA l i.toNat 0 x.2.2.2.1)/\x.2.1.get x.2.2.2.2= .tip (cR x.2.2.2.1 x.1).length/\x.2.2.2.2≠x.2.2.1) (fun x=>i.toNat+1-x.1))
def No(xs:Y14)(h:Heap)(K:KT):Prop:=match xs with
 | [.vslice none e1 n1 3 c1,.int .i64 i]=> ∃l:Y15,(n1=l.length/\c1=l.flatMap cN)/\D7 l/\((¬ (0<=i/\i< (l.length:Int)/\(aK l).getD i.toNat 0≠0)/\K (.vslice none 0 0 1 []) h) \/ ((0<=i/\i< (l.length:Int)/\(aK l).getD i.toNat 0≠0)/\∀c:Y12,Xi l i.toNat c->K (.vslice none 0 (c).length 1 ((c).map (IV.int .i64))) h))
 |_=>False
def iJ(i:Int):=TV.v (.int .i64 i)
def As(l:Y15):=TV.v (.vslice none 0 l.length 3 (List.flatMap cN l))
def gW(i:Int):=i.toNat+1
def Xy(i:Int):=(wW (i+1)).toNat
def zE:=IV.int .i64
def K5:=TV.v IV.nilslice
def b8H:=TV.v (.int .i64 0)
def c8H:=IV.vslice none 0 0 1 []
def b0A(i:Int)(l:Y15)(x:Nat×Heap×Nat×Y13)(j:Nat×Heap×Nat×Y13×Nat):Prop:= ∃(g:Nat×Heap×Nat×Y13),some (As l)=some (As l)/\some (iJ i)=some (iJ i)/\some (TV.v (.hslice j.2.2.1 0 (gW i) 1))=some (TV.v (.hslice g.2.2.1 0 (gW i) 1))/\tI (wW ((j.1:Int)-1))=tI ((g.1:Int)-1)/\j.2.1=g.2.1/\(wA l i.toNat g.1 g.2.2.2/\
 J3 g.2.1 g.2.2.1 g.2.2.2)/\g.1<x.1
theorem c8I(l:Y15)(i:Int)(L:Nat)(h:Heap)(Q:KT):dF (aS Ar) env 43 dL (N6 7 (dyA l i) (N6 1000010 (dyB l i) (kR 15 (dyC l i)))) bS [.vslice none L (l).length 3 ((l).flatMap cN),.int .i64 i] h Q=(
 aD (aM [IV.vslice none 0 l.length 3 (List.flatMap cN l),iI i]) (∃(j:Y15),(l.length=j.length/\List.flatMap cN l=List.flatMap cN j)/\((∀(x:Nd),x∈j->List.length (Nd.ks x)<=1000000)/\j.length<=(1000000:Nat))/\aJ ((if 0<=i/\i< (j.length:Int)then List.getD (aK j) i.toNat 0 else(0:Int))==0) (Q c8H h) (aD (decide (0<=wW (i+1)) && (decide (wW (i+1)<=wW (i+1)) && (decide (wW (i+1)<=9223372036854775807) &&decide ((1:Int)*wW (i+1)<=140737488355328)))) (aD (decide (0<=i) &&decide (i< ((Xy i):Int))) (aD (Nat.ble ((0:Nat)+i.toNat*(1:Nat)+1) ((fQ (Xy i) [IV.bool false]).length)) ((∃(x:Nat×Heap×Nat×Y13),some (As l)=some (As l)/\some (iJ i)=some (iJ i)/\some (TV.v (.hslice 0 0 (Xy i) 1))=some (TV.v (.hslice x.2.2.1 0 (gW i) 1))/\some (iJ i)=tI ((x.1:Int)-1)/\Heap.mk (PT.node PT.nil (some (IObj.cells (List.take ((0:Nat)+i.toNat*1) (fQ (Xy i) [IV.bool false])++ [IV.bool true]++List.drop ((0:Nat)+i.toNat*(1:Nat)+1) (fQ (Xy i) [IV.bool false])))) PT.nil) ((0:Nat)+1)=x.2.1/\(wA l i.toNat x.1 x.2.2.2/\J3 x.2.1 x.2.2.1 x.2.2.2)/\True)/\∀(x:Nat×Heap×Nat×Y13)(b:FF),wA l i.toNat x.1 x.2.2.2/\J3 x.2.1 x.2.2.1 x.2.2.2->aJ (decide ((x.1:Int)-1>=0)) (∃(M:Nat),(∃(g:Nat×Heap×Nat×Y13×Nat),some (As l)=some (As l)/\some (iJ i)=some (iJ i)/\some (TV.v (.hslice x.2.2.1 0 (gW i) 1))=some (TV.v (.hslice g.2.2.1 0 (gW i) 1))/\tI ((x.1:Int)-1)=tI (g.1:Int)/\some b8H=tI (g.2.2.2.2:Int)/\x.2.1=g.2.1/\(wA l i.toNat (g.1+1) g.2.2.2.1/\J3 g.2.1 g.2.2.1 g.2.2.2.1/\g.2.2.2.2<=List.length (Nd.ks (List.getD l g.1 default))/\∀(q:Nat),q< (g.2.2.2).2-> ∀(k:Int),(Nd.ks (List.getD l g.1 default))[q]?=some k->g.2.2.2.1[k.toNat]?=some true)/\g.1*1000001+((Nd.ks (List.getD l g.1 default)).length- ((g.2.2).2).2)<=M)/\∀(g:Nat×Heap×Nat×Y13×Nat)(b:FF),(wA l i.toNat (g.1+1) g.2.2.2.1/\J3 g.2.1 g.2.2.1 g.2.2.2.1/\Prod.snd g.2.2.2<=List.length (Nd.ks (List.getD l g.1 default))/\∀(q:Nat),q<g.2.2.2.2-> ∀(k:Int),(Nd.ks (List.getD l g.1 default))[q]?=some k->g.2.2.2.1[k.toNat]?=some true)->g.1*1000001+((Nd.ks (List.getD l g.1 default)).length-g.2.2.2.2)<=M->aD (decide (0<=(g.1:Int)) &&decide ((g.1:Int)< (l.length:Int))) (aX 1 (List.flatMap cN l) ((g.1:Int).toNat*3+2) fun(i0:Y10)(L V:Nat)(Z:Y14)=>aJ (decide ((g.2.2.2.2:Int)< (V:Int))) (aD (decide (0<=(g.1:Int)) &&decide ((g.1:Int)< ((gW i):Int))) (aE g.2.1 g.2.2.1 fun Y=>kQ Y ((0:Nat)+(g.1:Int).toNat*1) fun O=>aJ O (aD (decide (0<=(g.1:Int)) &&decide ((g.1:Int)< ((l.length):Int))) (aX 1 (List.flatMap cN l) ((g.1:Int).toNat*3+2) fun(i6:Y10)(e7 X:Nat)(T:Y14)=>aD (decide (0<=(g.2.2.2.2:Int)) &&decide ((g.2.2.2.2:Int)< (X:Int))) (aI .i64 T ((g.2.2.2.2:Int).toNat*1) fun p=>aD (decide (0<=p) &&decide (p< ((gW i):Int))) (aE g.2.1 g.2.2.1 fun(u:Y14)=>aD (Nat.ble ((0:Nat)+p.toNat*1+1) u.length) (∃(x:Nat×Heap×Nat×Y13×Nat),some (As l)=some (As l)/\some (iJ i)=some (iJ i)/\some (TV.v (.hslice g.2.2.1 0 (gW i) 1))=some (TV.v (IV.hslice x.2.2.1 0 (gW i) 1))/\tI (g.1:Int)=tI (x.1:Int)/\tI (wW ((g.2.2.2.2:Int)+1))=tI (x.2.2.2.2:Int)/\Heap.set g.2.1 g.2.2.1 (IObj.cells (List.take ((0:Nat)+p.toNat*1) u++ [IV.bool true]++List.drop ((0:Nat)+p.toNat*1+1) u))=x.2.1/\(wA l i.toNat (x.1+1) x.2.2.2.1/\J3 x.2.1 x.2.2.1 x.2.2.2.1/\Prod.snd (((x.2).2).2)<=List.length (Nd.ks (List.getD l x.1 default))/\∀(q:Nat),q<x.2.2.2.2-> ∀(k:Int),(Nd.ks (List.getD l x.1 default))[q]?=some k->x.2.2.2.1[k.toNat]?=some true)/\x.1*1000001+((Nd.ks (List.getD l x.1 default)).length-x.2.2.2.2)<g.1*1000001+((Nd.ks (List.getD l g.1 default)).length-g.2.2.2.2)))))) (b0A i l x g))) (b0A i l x g))) (((∃(g:Nat×Heap×Nat×Y13),some (iJ i)=some (iJ i)/\some (TV.v (.hslice x.2.2.1 0 (gW i) 1))=some (TV.v (.hslice g.2.2.1 0 (gW i) 1))/\some K5=some K5/\some b8H=tI (g.1:Int)/\x.2.1=g.2.1/\((g.1<=i.toNat+1/\cR g.2.2.2 g.1=[])/\J3 g.2.1 g.2.2.1 g.2.2.2/\wA l i.toNat 0 g.2.2.2)/\True) \/ ∃(g:Nat×Heap×Nat×Y13×Nat),some (iJ i)=some (iJ i)/\some (TV.v (.hslice x.2.2.1 0 (gW i) 1))=some (TV.v (.hslice g.2.2.1 0 (gW i) 1))/\some K5=some (TV.v (.vslice (some g.2.2.2.2) ((cR g.2.2.2.1 g.1).length) ((cR g.2.2.2.1 g.1).length) 1 (List.map zE (cR g.2.2.2.1 g.1))))/\some b8H=tI (g.1:Int)/\x.2.1=g.2.1/\((g.1<=i.toNat+1/\J3 g.2.1 (((g.2).2).1) g.2.2.2.1/\wA l i.toNat 0 g.2.2.2.1)/\Heap.get g.2.1 g.2.2.2.2=IObj.tip ((cR g.2.2.2.1 (g.1)).length)/\g.2.2.2.2≠g.2.2.1)/\True)/\(∀(x:Nat×Heap×Nat×Y13)(b:FF),(x.1<=i.toNat+1/\cR x.2.2.2 x.1=[])/\J3 x.2.1 (((x.2).2).1) x.2.2.2/\wA l i.toNat 0 x.2.2.2->aJ (decide ((x.1:Int)<=i)) (aD (decide (0<=(x.1:Int)) &&decide ((x.1:Int)< ((gW i):Int))) (aE x.2.1 ((x.2.2).1) fun G=>kQ G ((0:Nat)+(x.1:Int).toNat*1) fun z=>aJ z ((∃(g:Nat×Heap×Nat×Y13),some (iJ i)=some (iJ i)/\some (TV.v (.hslice x.2.2.1 0 (gW i) 1))=some (TV.v (.hslice g.2.2.1 0 (gW i) 1))/\some (TV.v (.vslice (some (x.2.1.next)) 1 1 1 [iI (x.1:Int)]))=some K5/\tI (wW (((x.1):Int)+1))=tI (g.1:Int)/\Heap.push x.2.1 (IObj.tip 1)=g.2.1/\((g.1<=i.toNat+1/\cR g.2.2.2 g.1=[])/\J3 ((g.2).1) g.2.2.1 g.2.2.2/\wA l i.toNat 0 g.2.2.2)/\i.toNat+1-g.1<i.toNat+1-x.1) \/ ∃(g:Nat×Heap×Nat×Y13×Nat),some (iJ i)=some (iJ i)/\some (TV.v (.hslice x.2.2.1 0 (gW i) 1))=some (TV.v (.hslice g.2.2.1 0 (gW i) 1))/\some (TV.v (.vslice (some (x.2.1.next)) 1 1 1 [iI (x.1:Int)]))=some (TV.v (.vslice (some g.2.2.2.2) ((cR g.2.2.2.1 g.1).length) ((cR g.2.2.2.1 g.1).length) 1 (List.map zE (cR g.2.2.2.1 g.1))))/\tI (wW ((x.1:Int)+1))=tI (g.1:Int)/\Heap.push x.2.1 (IObj.tip 1)=(g.2).1/\((g.1<=i.toNat+1/\J3 g.2.1 g.2.2.1 g.2.2.2.1/\wA l i.toNat 0 g.2.2.2.1)/\Heap.get g.2.1 ((g.2.2.2).2)=IObj.tip ((cR g.2.2.2.1 g.1).length)/\g.2.2.2.2≠g.2.2.1)/\i.toNat+1-g.1<i.toNat+1-x.1) ((∃(g:Nat×Heap×Nat×Y13),some (iJ i)=some (iJ i)/\some (TV.v (.hslice x.2.2.1 0 (gW i) 1))=some (TV.v (.hslice g.2.2.1 0 (gW i) 1))/\some K5=some K5/\tI (wW ((x.1:Int)+1))=tI (g.1:Int)/\x.2.1=g.2.1/\((g.1<=i.toNat+1/\cR g.2.2.2 g.1=[])/\J3 g.2.1 (g.2.2.1) g.2.2.2/\wA l i.toNat 0 g.2.2.2)/\i.toNat+1-g.1<i.toNat+1-x.1) \/ ∃(g:Nat×Heap×Nat×Y13×Nat),some (iJ i)=some (iJ i)/\some (TV.v (IV.hslice x.2.2.1 0 (gW i) 1))=some (TV.v (.hslice g.2.2.1 0 (gW i) 1))/\some K5=some (TV.v (.vslice (some g.2.2.2.2) ((cR (((g.2.2).2).1) g.1).length) ((cR g.2.2.2.1 g.1).length) 1 (List.map zE (cR g.2.2.2.1 g.1))))/\tI (wW ((x.1:Int)+(1:Int)))=tI (g.1:Int)/\x.2.1=g.2.1/\((g.1<=i.toNat+1/\J3 g.2.1 g.2.2.1 g.2.2.2.1/\wA l (i.toNat) 0 g.2.2.2.1)/\Heap.get g.2.1 g.2.2.2.2=IObj.tip ((cR g.2.2.2.1 g.1).length)/\g.2.2.2.2≠Prod.fst g.2.2)/\i.toNat+1-g.1<i.toNat+1-x.1))) (Q c8H h))/\∀(x:Nat×Heap×Nat×Y13×Nat)(b:FF),(x.1<=i.toNat+1/\J3 x.2.1 x.2.2.1 (((x.2.2).2).1)/\wA l i.toNat 0 x.2.2.2.1)/\Heap.get x.2.1 x.2.2.2.2=IObj.tip ((cR x.2.2.2.1 x.1).length)/\Prod.snd (((x.2).2).2)≠x.2.2.1->aJ (decide ((x.1:Int)<=i)) (aD (decide (0<=(x.1:Int)) &&decide ((x.1:Int)< ((gW i):Int))) (aE x.2.1 x.2.2.1 fun K=>kQ K ((0:Nat)+(x.1:Int).toNat*1) fun A=>aJ A (cK x.2.1 x.2.2.2.2 fun(D:Nat)=>aD (Nat.beq D ((cR x.2.2.2.1 x.1).length) &&Nat.ble (((cR ((x.2.2.2).1) x.1).length+1)*8) 140737488355328) ((∃(g:Nat×Heap×Nat×Y13),some (iJ i)=some (iJ i)/\some (TV.v (.hslice x.2.2.1 0 (gW i) 1))=some (TV.v (.hslice (((g.2).2).1) 0 (gW i) 1))/\some (TV.v (.vslice (some x.2.2.2.2) ((cR x.2.2.2.1 x.1).length+1) ((cR x.2.2.2.1 x.1).length+1) 1 (List.map zE (cR x.2.2.2.1 x.1)++ [iI (x.1:Int)])))=some K5/\tI (wW ((x.1:Int)+1))=tI (g.1:Int)/\Heap.set x.2.1 x.2.2.2.2 (IObj.tip ((cR x.2.2.2.1 x.1).length+1))=g.2.1/\((g.1<=i.toNat+1/\cR g.2.2.2 (g.1)=[])/\J3 g.2.1 g.2.2.1 g.2.2.2/\wA l i.toNat 0 g.2.2.2)/\i.toNat+1-g.1<i.toNat+1-x.1) \/ ∃(g:Nat×Heap×Nat×Y13×Nat),some (iJ i)=some (iJ i)/\some (TV.v (.hslice x.2.2.1 0 (gW i) 1))=some (TV.v (.hslice g.2.2.1 0 (gW i) 1))/\some (TV.v (.vslice (some x.2.2.2.2) ((cR x.2.2.2.1 x.1).length+1) ((cR x.2.2.2.1 x.1).length+1) 1 (List.map zE (cR x.2.2.2.1 x.1)++ [iI ((x.1):Int)])))=some (TV.v (.vslice (some g.2.2.2.2) ((cR g.2.2.2.1 g.1).length) ((cR g.2.2.2.1 g.1).length) 1 (List.map zE (cR (g.2.2.2.1) g.1))))/\tI (wW ((x.1:Int)+1))=tI (g.1:Int)/\Heap.set x.2.1 x.2.2.2.2 (IObj.tip ((cR x.2.2.2.1 x.1).length+1))=g.2.1/\((g.1<=i.toNat+1/\J3 g.2.1 g.2.2.1 g.2.2.2.1/\wA l i.toNat 0 g.2.2.2.1)/\Heap.get g.2.1 g.2.2.2.2=IObj.tip ((cR g.2.2.2.1 g.1).length)/\g.2.2.2.2≠Prod.fst (g.2.2))/\i.toNat+1-g.1<i.toNat+1-x.1)) ((∃(g:Nat×Heap×Nat×Y13),some (iJ i)=some (iJ i)/\some (TV.v (.hslice x.2.2.1 0 (gW i) 1))=some (TV.v (.hslice ((g.2.2).1) 0 (gW i) 1))/\some (TV.v (.vslice (some x.2.2.2.2) ((cR x.2.2.2.1 x.1).length) ((cR x.2.2.2.1 x.1).length) 1 (List.map zE (cR x.2.2.2.1 x.1))))=some K5/\tI (wW ((x.1:Int)+1))=tI (g.1:Int)/\x.2.1=g.2.1/\((g.1<=i.toNat+1/\cR g.2.2.2 g.1=[])/\J3 g.2.1 g.2.2.1 g.2.2.2/\wA l i.toNat 0 g.2.2.2)/\i.toNat+1-g.1<i.toNat+1-x.1) \/ ∃(g:Nat×Heap×Nat×Y13×Nat),some (iJ i)=some (iJ i)/\some (TV.v (.hslice x.2.2.1 0 (gW i) 1))=some (TV.v (.hslice g.2.2.1 0 (gW i) 1))/\some (TV.v (.vslice (some x.2.2.2.2) ((cR x.2.2.2.1 x.1).length) ((cR x.2.2.2.1 x.1).length) 1 (List.map zE (cR ((((x.2).2).2).1) x.1))))=some (TV.v (.vslice (some g.2.2.2.2) ((cR g.2.2.2.1 g.1).length) ((cR g.2.2.2.1 g.1).length) 1 (List.map zE (cR g.2.2.2.1 g.1))))/\tI (wW ((x.1:Int)+1))=tI (g.1:Int)/\x.2.1=g.2.1/\((g.1<=Int.toNat i+1/\J3 g.2.1 g.2.2.1 g.2.2.2.1/\wA l i.toNat 0 g.2.2.2.1)/\Heap.get g.2.1 g.2.2.2.2=IObj.tip ((cR g.2.2.2.1 g.1).length)/\g.2.2.2.2≠g.2.2.1)/\i.toNat+1-g.1<i.toNat+1-x.1))) (aD (aM [IV.vslice none 0 ((cR x.2.2.2.1 x.1).length) 1 (List.map zE (cR x.2.2.2.1 x.1))]) (Q (.vslice none 0 ((cR x.2.2.2.1 x.1).length) 1 (List.map zE (cR x.2.2.2.1 x.1))) h))))))))):=by kernel_rfl
theorem Np: ∀xs h Q,No xs h Q->aO env 43 xs h Q:=by
 intro xs h Q Y;unfold No at Y;split at Y
 ·rename_i e1 n1 T i;obtain⟨l,⟨rfl,rfl⟩,hg,Y⟩:=Y;refine aN (Hi) (c8I l i e1 h Q) ?_;delta b0A iJ As gW Xy zE K5 b8H c8H tI wW iI;have tn: ∀x:Nat,(x:Int).toNat=x:=AE
  have b9:=hg;obtain⟨hn,b4⟩:=hg;refine aA (by simp only [aM,bI,cI,AT]) ⟨l,⟨rfl,rfl⟩,⟨fun x hx=>(hn x hx).2.2,b4⟩,?_⟩;rcases Y with⟨hx,Y⟩| ⟨hx,Y⟩
  ·refine aC (fun _=>Y) (fun c=>absurd ?_ hx);rw [beq_eq_false_iff_ne]at c
   by_cases q:0<=i/\i< (l.length:Int)
   ·rw [if_pos q]at c;exact⟨q.1,q.2,c⟩
   ·rw [if_neg q]at c;exact absurd rfl c
  obtain⟨j,rfl⟩: ∃j:Nat,i=(j:Int):=⟨i.toNat,IM⟩
  have b1:j<l.length:=IM;have hs:=hx.2.2;have b5:IntKind.i64.wrap ((j:Int)+1)=((j+1:Nat):Int):=by rw [AB _ IM];rfl
  rw [b5];simp only [tn,yN]at hs Y⊢;refine aC (fun c=>absurd (beq_iff_eq.1 c) (by rw [if_pos ⟨hx.1,hx.2.1⟩];exact hs)) (fun _=>aA (by simp;omega) (aA (by simp;omega) (aA (by rw [AM];simp) ⟨⟨(j+1,_,0,(List.replicate (j+1) false).set j true),IR,IR,IR,?_,IR,⟨⟨AJ _,IP,IP,fun p e=>?_,fun p e1 e2 e3=>IM⟩,⟨?_,Nat.one_pos⟩⟩,trivial⟩,?_⟩)))
  ·dsimp only;rw [show((j+1:Nat):Int)-1=(j:Int) by omega]
  ·rw [List.getElem?_set]at e;split at e
   ·rename_i ee;rw [<-ee];exact hs
   ·rw [List.getElem?_replicate]at e;split at e<;>cases e
  ·rw [<-c0H IP];simp only [BT,AO];rfl
  rintro⟨jj,g,id,b⟩ _ ⟨hm,a5⟩;dsimp only at hm a5⊢;refine aC (fun c=>?_) (fun c=>?_)
  ·rw [decide_eq_true_eq]at c;obtain⟨p,rfl⟩: ∃p,jj=p+1:=⟨jj-1,IM⟩
   have ep:((p+1:Nat):Int)-1=(p:Int):=IM;have c3:p<=j:=by have:=hm.1;omega
   have b0:p<l.length:=IM;have eP:l.getD p default=l[p]:=Go.M14.mF b0;have b6:=(hn _ (AG b0)).2.2;refine⟨p*1000001+(l.getD p default).ks.length,⟨(p,g,id,b,0),IR,IR,IR,by rw [ep],IR,IR,⟨hm,a5,AR _,fun q hq=>absurd hq (DJ _)⟩,IS⟩,?_⟩;rintro⟨G,Z,D,A,k⟩ _ ⟨z,u,a9,hq⟩ hM;dsimp only at z u a9 hq hM⊢;rw [eP]at hM;have c0:G<=p:=IM;have X:G<l.length:=IM;have eD:l.getD G default=l[G]:=Go.M14.mF X;simp only [eD]at a9 hq⊢;have a7:=z.2.1;have a4:G<A.length:=IM;have ex:(A[G]=true->l[G].ks.length<=k)->wA l j G A:=fun hx=>⟨IM,a7,z.2.2.1,z.2.2.2.1,fun p3 e2 e3 e4 k3 L=>by
    rcases BC G p3 with d|d
    ·exact z.2.2.2.2 p3 d e3 e4 k3 L
    ·obtain rfl:G=p3:=IM;rw [eD]at L;rw [AA a4,AC]at e4;have:=hx e4;obtain⟨q,a8,rfl⟩:=CT.1 L;exact hq q IM _ (AA a8)⟩
   refine aA (by simp;omega) (sE X rfl (aC (fun T=>?_) (fun T=>?_)))
   ·rw [decide_eq_true_eq]at T;have a0:k<l[G].ks.length:=IM;have b7:=(hn _ (AG X)).2.2;refine aA (by simp;omega) (aB u.1 (K1 (Kt a4 rfl) (aC (fun V=>?_) (fun V=>?_))))
    ·have b3:=(wfN X (z.2.2.2.1 G (by rw [AA a4,V]))).ks (l[G].ks[k]) (by rw [eD];exact AG a0);have L:(l[G].ks[k]).toNat<A.length:=IM;refine aA (by simp;omega) (sE X rfl (aA (by simp;omega) (fT a0 (AO _) (aA (by simp;omega) (aB u.1 (aA (by rw [AM];simp;omega) ⟨(G,Z.set D (.cells ((A.set (l[G].ks[k]).toNat true).map IV.bool)),D,A.set (l[G].ks[k]).toNat true,k+1),IR,IR,IR,IR,?_,?_,⟨z.set IM b3.2.2,⟨?_,u.2⟩,?_,?_⟩,?_⟩))))))
     ·rw [AB _ IM];rfl
     ·dsimp only;rw [<-c0H L];simp only [BT,AO]
     ·exact aH
     ·dsimp only;rw [eD];exact a0
     ·intro q a8 k1 e1;dsimp only at a8 e1⊢;rw [eD]at e1;rcases BC q k with d|d
      ·exact xI (hq q d k1 e1)
      ·obtain rfl:q=k:=IM;rw [AA a0,AC]at e1;rw [<-e1,List.getElem?_set,if_pos rfl,if_pos L]
     ·dsimp only;rw [eD];omega
    ·exact⟨(G,Z,D,A),IR,IR,IR,(by rw [AB _ IM]),IR,⟨ex (fun e=>by rw [V]at e;cases e),u⟩,IS⟩
   ·rw [decide_eq_false_iff_not]at T;exact⟨(G,Z,D,A),IR,IR,IR,(by rw [AB _ IM]),IR,⟨ex (fun _=>IM),u⟩,IS⟩
  ·rw [decide_eq_false_iff_not]at c;obtain rfl:jj=0:=IM;refine⟨.inl ⟨(0,g,id,b),IR,IR,IR,IR,IR,⟨⟨AR _,rfl⟩,a5,hm⟩,trivial⟩,?_,?_⟩
   ·rintro⟨q,Z,D,A⟩ _ ⟨⟨hq,a3⟩,u,z⟩;dsimp only at hq a3 u z⊢;refine aC (fun T=>?_) (fun T=>?_)
    ·rw [decide_eq_true_eq]at T;have K:q<A.length:=by have:=z.2.1;omega
     refine aA (by simp;omega) (aB u.1 (K1 (Kt K rfl) (aC (fun V=>?_) (fun V=>?_))))
     ·have O:=a1L (show A[q]?=some true by rw [AA K,V]);rw [a3]at O;refine .inr ⟨(q+1,Z.push (.tip 1),D,A,Z.next),IR,IR,?_,?_,IR,⟨⟨IS,⟨?_,BM u.2⟩,z⟩,?_,DG u.2⟩,IS⟩
      ·dsimp only;rw [O];rfl
      ·rw [AB _ IM];rfl
      ·dsimp only;rw [aL u.2];exact u.1
      ·dsimp only;rw [O];exact aU
     ·have a2:=a1M (show A[q]?=some false by rw [AA K,V]);exact .inl ⟨(q+1,Z,D,A),IR,IR,IR,(by rw [AB _ IM];rfl),IR,⟨⟨IS,by dsimp only;rw [a2];exact a3⟩,u,z⟩,IS⟩
    ·rw [decide_eq_false_iff_not]at T;exfalso;have:(j:Int) ∈cR A q:=qV.2 ⟨j,rfl,IM,z.2.2.1⟩;rw [a3]at this
     cases this
   ·rintro⟨q,Z,D,A,k⟩ _ ⟨⟨hq,u,z⟩,a6,a1⟩;dsimp only at hq u z a6 a1⊢;have c5:=Eg A q;refine aC (fun T=>?_) (fun T=>?_)
    ·rw [decide_eq_true_eq]at T;have K:q<A.length:=by have:=z.2.1;omega
     refine aA (by simp;omega) (aB u.1 (K1 (Kt K rfl) (aC (fun V=>?_) (fun V=>?_))))
     ·have O:=a1L (show A[q]?=some true by rw [AA K,V]);refine aV a6 (aA (by simp only [AF,bK,AM,true_and];omega) (.inr ⟨(q+1,Z.set k (.tip ((cR A q).length+1)),D,A,k),IR,IR,?_,?_,IR,⟨⟨IS,⟨?_,u.2⟩,z⟩,?_,a1⟩,IS⟩))
      ·dsimp only;rw [O];simp
      ·rw [AB _ IM];rfl
      ·dsimp only;rw [aG a1.symm];exact u.1
      ·dsimp only;rw [O,aH];simp
     ·have a2:=a1M (show A[q]?=some false by rw [AA K,V]);refine .inr ⟨(q+1,Z,D,A,k),IR,IR,?_,(by rw [AB _ IM];rfl),IR,⟨⟨IS,u,z⟩,?_,a1⟩,IS⟩
      ·dsimp only;rw [a2]
      ·dsimp only;rw [a2];exact a6
    ·rw [decide_eq_false_iff_not]at T;obtain rfl:q=j+1:=IM;exact aA (by simp only [aM,bI,bT,AT]) (Y _ (z.dep b1))
 ·exact Y.elim
def b0B:=aT 43 No Ar
theorem b8I:aP env b0B:=aF Np (Hi)
def b0C(xs:Y14)(h:Heap)(K:KT):Prop:=match xs with
 | [.vslice none e1 n1 3 c1,.int .i64 i]=> ∃l:Y15,(n1=l.length/\c1=l.flatMap cN)/\D7 l/\∀c:Y12,DZ l i c->K (.vslice none 0 (c).length 1 ((c).map (IV.int .i64))) h
 |_=>False
theorem d4E: ∀xs h Q,b0C xs h Q->aO env 43 xs h Q:=by
 intro xs h Q g;unfold b0C at g;split at g
 ·rename_i z A u i;obtain⟨l,⟨rfl,rfl⟩,j,g⟩:=g
  by_cases c:0<=i/\i< (l.length:Int)/\(aK l).getD i.toNat 0≠0
  ·exact Np _ _ _ ⟨l,⟨rfl,rfl⟩,j,.inr ⟨c,fun y p=>g y (.inr ⟨c,p⟩)⟩⟩
  ·exact Np _ _ _ ⟨l,⟨rfl,rfl⟩,j,.inl ⟨c,g [] (.inl ⟨rfl,c⟩)⟩⟩
 ·exact g.elim
def b0D:=aT 43 b0C b0B
theorem b0E:aP env b0D:=aF d4E (b8I)
def F9(d:Nat)(xs:Y14)(h:Heap)(K:KT):Prop:=match xs with
 | [.int .u64 n]=>(0<=n/\n<18446744073709551616/\n.toNat<d)/\K (.str (lS n.toNat)) h
 |_=>False
theorem c8J(g:Nat)(n:Int)(h:Heap)(Q:KT):dF (aS (aT 156 (F9 g) b0D)) env 156 dL bS bS [.int .u64 n] h Q=(
 aJ (decide (n<10)) (Q (.str [UInt8.ofNat ((IntKind.wrap .u8 (IntKind.wrap .u64 ((48:Int)+n))).toNat)]) h) ((0<=IntKind.wrap .u64 (Int.tdiv n 10)/\IntKind.wrap .u64 (Int.tdiv n 10)<18446744073709551616/\Int.toNat (IntKind.wrap .u64 (Int.tdiv n 10))<g)/\aD (Nat.ble ((lS ((IntKind.wrap .u64 (Int.tdiv n 10)).toNat)).length+List.length [UInt8.ofNat ((IntKind.wrap .u8 (IntKind.wrap .u64 ((48:Int)+Int.tmod n 10))).toNat)]) 9223372036854775807) (Q (.str (lS ((IntKind.wrap .u64 (Int.tdiv n 10)).toNat)++ [UInt8.ofNat ((IntKind.wrap .u8 (IntKind.wrap .u64 ((48:Int)+Int.tmod n 10))).toNat)])) h))):=by kernel_rfl
theorem c8K: ∀d xs h Q,F9 d xs h Q->aO env 156 xs h Q:=by
 intro d
 induction d with
 |zero=>
  intro xs h Q g;unfold F9 at g;split at g
  ·rename_i n;obtain⟨i,g⟩:=g;have:=i.2.2;omega
  ·exact g.elim
 |succ dd ih=>
  intro xs h Q g;unfold F9 at g;split at g
  ·rename_i n;obtain⟨i,g⟩:=g;refine aN (aF ih (b0E)) (c8J dd n h Q) ?_;obtain⟨h0,p,hd⟩:=i;obtain⟨m,rfl⟩:=HS h0;simp only [AE]at g hd;have ew: ∀k:Nat,k<10->UInt8.ofNat ((IntKind.u8.wrap (IntKind.u64.wrap ((48:Int)+(k:Int)))).toNat)=UInt8.ofNat (48+k):=fun k g=>by
    have:IntKind.u64.wrap ((48:Int)+(k:Int))=((48+k:Nat):Int):=by rw [FS _ IM];omega
    rw [this,IntWalk.u8_in _ IM,AE]
   refine dA (fun c=>?_) (fun c=>?_)
   ·rw [ew m IM];rw [uV IM]at g;exact g
   ·have j:IntKind.u64.wrap (Int.tdiv (m:Int) 10)=((m/10:Nat):Int):=by
     have:Int.tdiv (m:Int) 10=((m/10:Nat):Int):=rfl;rw [this,FS _ IM]
    have l:Int.tmod (m:Int) 10=((m%10:Nat):Int):=rfl;rw [j,l,ew (m%10) IM];simp only [AE];have u:=C5 20 (m/10) IM;refine⟨⟨IM,IM,IM⟩,aA (by rw [AM];simp;omega) ?_⟩;rw [T5 IM]at g;exact g
  ·exact g.elim
def Nq:=aT 156 (fun xs h K=> ∃d,F9 d xs h K) b0D
theorem Ux:aP env Nq:=aF (fun xs h Q g=>g.elim fun d g=>c8K d xs h Q g) (b0E)
def Au(xs:Y14)(h:Heap)(K:KT):Prop:=match xs with
 | [.int .i64 n]=>aR n/\K (.str (jM n)) h
 |_=>False
theorem b8J(n:Int)(h:Heap)(Q:KT):dF (aS Nq) env 87 dL bS bS [.int .i64 n] h Q=(
 aJ (decide (n<0)) (∃(d:Nat),(0<=IntKind.wrap .u64 (IntKind.wrap .u64 (wW ((0:Int)-wW (n+1)))+1)/\IntKind.wrap .u64 (IntKind.wrap .u64 (wW ((0:Int)-wW (n+1)))+1)<18446744073709551616/\Int.toNat (IntKind.wrap .u64 (IntKind.wrap .u64 (wW ((0:Int)-wW (n+1)))+1))<d)/\aD (Nat.ble ((1:Nat)+(lS ((IntKind.wrap .u64 (IntKind.wrap .u64 (wW ((0:Int)-wW (n+1)))+1)).toNat)).length) 9223372036854775807) (Q (.str ((45:UInt8)::lS ((IntKind.wrap .u64 (IntKind.wrap .u64 (wW ((0:Int)-wW (n+1)))+1)).toNat))) h)) (∃(d:Nat),(0<=IntKind.wrap .u64 n/\IntKind.wrap .u64 n<18446744073709551616/\Int.toNat (IntKind.wrap .u64 n)<d)/\Q (.str (lS ((IntKind.wrap .u64 n).toNat))) h)):=by kernel_rfl
theorem b8K: ∀xs h Q,Au xs h Q->aO env 87 xs h Q:=by
 intro xs h Q g;unfold Au at g;split at g
 ·rename_i n;obtain⟨p,g⟩:=g;refine aN (Ux) (b8J n h Q) ?_;delta wW;have i:=p;unfold aR at i;have j:n<0->IntKind.u64.wrap (IntKind.u64.wrap (IntKind.i64.wrap ((0:Int)-IntKind.i64.wrap (n+1)))+1)=(n.natAbs:Int):=fun c=>by
   rw [AB (n+1) IM,AB _ IM,FS (0- (n+1)) IM,FS _ IM];omega
  refine dA (fun c=>?_) (fun c=>?_)
  ·rw [j c];simp only [AE];have u:=C5 20 n.natAbs IM;rw [T6 c]at g;exact⟨n.natAbs+1,⟨IM,IM,IM⟩,aA (by rw [AM];omega) g⟩
  ·have l:IntKind.u64.wrap n=(n.natAbs:Int):=by
    rw [FS _ IM];omega
   rw [l];simp only [AE];rw [Kf IM]at g;exact⟨n.natAbs+1,⟨IM,IM,IM⟩,g⟩
 ·exact g.elim
def Av:=aT 87 Au Nq
theorem Hj:aP env Av:=aF b8K (Ux)
def Aw(xs:Y14)(h:Heap)(K:KT):Prop:=match xs with
 | [.agg [.int .i64 op,.int .i64 im,.vslice none e1 n1 1 c1]]=> ∃ks:Y12,(n1=ks.length/\c1=ks.map (IV.int .i64))/\aR op/\aR im/\K (.tuple [.str (if lf op=true then lfT op im else yZ op im),.bool (lf op)]) h
 |_=>False
def Xz(im:Int):=wW (Int.tdiv im 16)
theorem b8L(op im:Int)(ks:Y12)(g:Nat)(h:Heap)(Q:KT):dF (aS Av) env 44 dL bS bS [.agg [.int .i64 (op),.int .i64 im,.vslice none g (ks).length 1 ((ks).map (IV.int .i64))]] h Q=(
 aD (aM [IV.agg [.int .i64 op,iI im,IV.vslice none 0 ks.length 1 (List.map (IV.int .i64) ks)]]) (aJ (op==1) (aR im/\Q (.tuple [.str (jM im),IV.bool true]) h) (aJ (op==2) (aR im/\aD (Nat.ble ((1:Nat)+(jM im).length) 9223372036854775807) (Q (.tuple [.str ((112:UInt8)::jM im),IV.bool true]) h)) (aJ (op==3) (aR (Xz im)/\aD (Nat.ble ((1:Nat)+(jM (Xz im)).length) 9223372036854775807) (aD (Nat.ble (((118:UInt8)::jM (Xz im)).length+1) 9223372036854775807) (aR (Int.tmod im 16)/\aD (Nat.ble (((118:UInt8)::((([]++(jM (Xz im))))++ [46])).length+(jM (Int.tmod im 16)).length) 9223372036854775807) (Q (.tuple [.str ((118:UInt8)::((((([]++(jM (Xz im))))++(Array.toList (ByteArray.data (ByteArray.mk #[46])))))++(jM (Int.tmod im 16)))),IV.bool true]) h)))) (aJ (op==26) (Q (.tuple [.str [115,116,97,114,116],IV.bool true]) h) (aR op/\aJ (nM op) (aD (Nat.ble ((Cb op).length+1) 9223372036854775807) (aR im/\aD (Nat.ble ((Cb op++ [46]).length+(jM im).length) 9223372036854775807) (Q (.tuple [.str (Cb op++ [46]++jM im),IV.bool false]) h))) (Q (.tuple [.str (Cb op),IV.bool false]) h))))))):=by kernel_rfl
theorem b8M: ∀xs h Q,Aw xs h Q->aO env 44 xs h Q:=by
 intro xs h Q g;unfold Aw at g;split at g
 ·rename_i op im A Y l;obtain⟨ks,⟨rfl,rfl⟩,L,i,g⟩:=g;refine aN (Hj) (b8L op im ks A h Q) ?_;delta Xz wW iI;have O:=iS i;have K:=T8 op;refine aA (by simp only [aM,bI,bT,AT]) (dA (fun l=>?_) (fun l=>dA (fun u=>?_) (fun u=>dA (fun z=>?_) (fun z=>dA (fun c4=>?_) (fun c4=>?_)))))
  ·subst l;exact⟨i,g⟩
  ·subst u;exact⟨i,aA (by rw [AM];omega) g⟩
  ·subst z;have j:=d4A i;have T:IntKind.i64.wrap (im.tdiv 16)=im.tdiv 16:=AB _ j.1;have V:=iS j.1;have X:=iS j.2;simp only [T];have D: ∀s t:Y11,((118::s)++ [46]++t).length=s.length+t.length+2:=fun s t=>by simp;omega
   have G:((118::jM (im.tdiv 16))++ [46]).length+(jM (im.tmod 16)).length<=9223372036854775807:=by
    have:=D (jM (im.tdiv 16)) (jM (im.tmod 16));rw [AH]at this;omega
   refine⟨j.1,aA (by rw [AM];omega) (aA (by rw [AM,AK];omega) ⟨j.2,aA (by rw [AM];exact G) ?_⟩)⟩;have e:(118::jM (im.tdiv 16))++ [46]++jM (im.tmod 16)=118::(jM (im.tdiv 16)++46::jM (im.tmod 16)):=IP;show Q (.tuple [.str ((118::jM (im.tdiv 16))++ [46]++jM (im.tmod 16)),.bool true]) h;rw [e];exact g
  ·subst c4;exact g
  ·have hf:lf op=false:=by
    unfold lf
    rw [decide_eq_false_iff_not];omega
   rw [hf,if_neg CG]at g;unfold yZ at g;refine⟨L,aC (fun p=>aA (by rw [AM];omega) ⟨i,aA (by rw [AM,AH,List.length_singleton];omega) ?_⟩) (fun p=>?_)⟩
   ·rw [if_pos p]at g;rw [DM];exact g
   ·rw [if_neg (by rw [p];exact CG),DK]at g;exact g
 ·exact g.elim
def Ax:=aT 44 Aw Av
theorem Hk:aP env Ax:=aF b8M (Hj)
def fmI(l:Y15)(i:Int):Inv':=eY (Nat×Y11) (fun x=>[(0,.v (.vslice none 0 (l).length 3 ((l).flatMap cN))),(1,.v (.int .i64 i)),(5,.v (.str x.2)),(7,.v (.int .i64 x.1))]) (fun _=>[]) (fun _=>Heap.empty)
 (fun x=>x.1<=(l.getD i.toNat default).ks.length/\x.2=yZ (l.getD i.toNat default).op (l.getD i.toNat default).im++sN (sC l) ((l.getD i.toNat default).ks.take x.1)) (fun x=>(l.getD i.toNat default).ks.length-x.1)
def Hl(d:Nat)(xs:Y14)(h:Heap)(K:KT):Prop:=match xs with
 | [.vslice none e1 n1 3 c1,.int .i64 i]=> ∃l:Y15,(n1=l.length/\c1=l.flatMap cN)/\D7 l/\(0<=i/\i<d/\i<l.length/\(aK l).getD i.toNat 0≠0)/\(pU l i.toNat).length<=20000/\K (.str (pU l i.toNat)) h
 |_=>False
def tG(l:Y15)(i:Int):=List.getD l i.toNat default
def b0F(l:Y15):=TV.v (.vslice none 0 l.length 3 (List.flatMap cN l))
def b8N(l:Y15)(i:Int):=decide (0<=i) &&decide (i< (l.length:Int))
def b0G(i:Int):=TV.v (.int .i64 i)
theorem d4F(G:Nat)(l:Y15)(i:Int)(L:Nat)(h:Heap)(Q:KT):dF (aS (aT 45 (Hl G) Ax)) env 45 dL (kR 6 (fmI l i)) bS [.vslice none L (l).length 3 ((l).flatMap cN),.int .i64 i] h Q=(
 aD (aM [IV.vslice none 0 l.length 3 (List.flatMap cN l),iI i]) (aD (b8N l i) (aI .i64 (List.flatMap cN l) (i.toNat*3) fun u=>aI .i64 (List.flatMap cN l) (i.toNat*3+1) fun z=>aX 1 (List.flatMap cN l) (i.toNat*3+1+1) fun(i2:Y10)(Z V:Nat)(K:Y14)=> ∃(ks:Y12),(V=ks.length/\K=List.map (IV.int .i64) ks)/\aR u/\aR z/\aJ (lf u) (Q (.str (if lf u=true then lfT u z else yZ u z)) h) ((∃(x:Nat×Y11),some (b0F l)=some (b0F l)/\some (b0G i)=some (b0G i)/\some (TV.v (.str (if lf u=true then lfT u z else yZ u z)))=some (TV.v (.str x.2))/\tI 0=tI ((x.1):Int)/\Heap.mk PT.nil 0=Heap.mk PT.nil 0/\(x.1<=List.length (Nd.ks (tG l i))/\x.2=yZ (Nd.op (tG l i)) (Nd.im (tG l i))++sN (sC l) (List.take x.1 (Nd.ks (tG l i))))/\True)/\∀(x:Nat×Y11)(b:FF),x.1<=List.length (Nd.ks (tG l i))/\x.2=yZ (Nd.op (tG l i)) (Nd.im (tG l i))++sN (sC l) (List.take x.1 (Nd.ks (tG l i)))->aD (b8N l i) (aX 1 (List.flatMap cN l) (i.toNat*3+2) fun(i6:Y10)(e7 X:Nat)(Y:Y14)=>aJ (decide ((x.1:Int)< (X:Int))) (aD (Nat.ble (x.2.length+1) 9223372036854775807) (aD (b8N l i) (aX 1 (List.flatMap cN l) (i.toNat*3+2) fun(T:Y10)(O D:Nat)(A:Y14)=>aD (decide (0<=(x.1:Int)) &&decide ((x.1:Int)< (D:Int))) (aI .i64 A ((x.1:Int).toNat*1) fun j=> ∃(g:Y15),(l.length=g.length/\List.flatMap cN l=List.flatMap cN g)/\D7 g/\(0<=j/\j< (G:Int)/\j< ((g.length):Int)/\List.getD (aK g) j.toNat 0≠0)/\List.length (pU g j.toNat)<=20000/\aD (Nat.ble ((x.2++ [32]).length+(pU g j.toNat).length) 9223372036854775807) (∃(p:Nat×Y11),some (b0F l)=some (b0F l)/\some (b0G i)=some (b0G i)/\some (TV.v (.str (x.2++ [32]++pU g j.toNat)))=some (TV.v (.str p.2))/\tI (wW ((x.1:Int)+1))=tI (p.1:Int)/\Heap.mk PT.nil 0=Heap.mk PT.nil 0/\(p.1<=List.length (Nd.ks (tG l i))/\p.2=yZ (Nd.op (tG l i)) (Nd.im (tG l i))++sN (sC l) (List.take p.1 (Nd.ks (tG l i))))/\List.length (Nd.ks (tG l i))-p.1< (Nd.ks (tG l i)).length-x.1))))) (aD (Nat.ble ((1:Nat)+x.2.length) 9223372036854775807) (aD (Nat.ble (((40:UInt8)::x.2).length+1) 9223372036854775807) (Q (.str ((40:UInt8)::((([]++x.2))++ [41]))) h)))))))):=by kernel_rfl
theorem d4G: ∀d xs h Q,Hl d xs h Q->aO env 45 xs h Q:=by
 intro d
 induction d with
 |zero=>
  intro xs h Q g;unfold Hl at g;split at g
  ·rename_i T n1 Y i;obtain⟨l,⟨rfl,rfl⟩,D,hi,hT,g⟩:=g;have:=hi.2.1;omega
  ·exact g.elim
 |succ dd ih=>
  intro xs h Q g;unfold Hl at g;split at g
  ·rename_i T n1 Y i;obtain⟨l,⟨rfl,rfl⟩,D,hi,hT,g⟩:=g;refine aN (aF ih (Hk)) (d4F dd l i T h Q) ?_;delta tG b0F b8N b0G tI wW iI;have tn: ∀x:Nat,(x:Int).toNat=x:=AE
   have G:=D;obtain⟨hn,a5⟩:=D;obtain⟨a0,a1,a2,hz⟩:=hi;have p:i.toNat<l.length:=IM;have w:=wfN p hz;have Z:l.getD i.toNat default=l[i.toNat]:=Go.M14.mF p;have X:=w.ks;have wl:=w.leaf;have A:=w.node;have V:=fun k h=>w.kid (k:=k) h
   have O:=w.len;obtain⟨L,K,a3⟩:=hn _ (AG p);simp only [Z]at X wl A V O⊢;refine aA (by simp only [aM,bI,cI,AT]) (aA (by simp;omega) (oR p rfl ⟨l[i.toNat].ks,⟨rfl,rfl⟩,L,K,aC (fun cf=>?_) (fun cf=>?_)⟩))
   ·rw [wl cf]at g;rw [if_pos cf];exact g
   ·rw [if_neg (by rw [cf];exact CG)];have A:=A cf;have O:=O cf;refine⟨⟨(0,_),IR,IR,IR,IR,IR,⟨AR _,?_⟩,trivial⟩,?_⟩
    ·rw [show sN (sC l) (l[i.toNat].ks.take 0)=[]from rfl,DK];rfl
    rintro⟨j,s⟩ _ ⟨hj,hs⟩;dsimp only at hj hs⊢;subst hs;have a6:(yZ l[i.toNat].op l[i.toNat].im++sN (sC l) (l[i.toNat].ks.take j)).length<=20000:=by
     have:(sN (sC l) (l[i.toNat].ks.take j)).length<=(sN (sC l) l[i.toNat].ks).length:=by
      have e:sN (sC l) l[i.toNat].ks=sN (sC l) (l[i.toNat].ks.take j)++sN (sC l) (l[i.toNat].ks.drop j):=by
       unfold sN
       rw [<-List.flatMap_append,DT]
      rw [e,AH];omega
     rw [AH];omega
    refine aA (by simp;omega) (sE p rfl (dA (fun c=>?_) (fun c=>?_)))
    ·have u:j<l[i.toNat].ks.length:=IM;have z:=X _ (AG u);have a4:=V _ (AG u);refine aA (by rw [AM];omega) (aA (by simp;omega) (sE p rfl (aA (by simp;omega) (fT u (by rw [AO,tn]) ⟨l,⟨rfl,rfl⟩,G,⟨z.1,IM,IM,z.2.2⟩,IM,aA (by rw [AM,AH,List.length_singleton];omega) ⟨(j+1,_),IR,IR,IR,?_,IR,⟨u,?_⟩,IS⟩⟩))))
     ·rw [AB _ IM];rfl
     ·rw [uX u];simp [pU]
    ·refine aA (by rw [AM];omega) (aA (by rw [AM,AK];omega) ?_);rw [AP IM];rw [A]at g;exact g
  ·exact g.elim
def b0H:=aT 45 (fun xs h K=> ∃d,Hl d xs h K) Ax
theorem b0I:aP env b0H:=aF (fun xs h Q g=>g.elim fun d g=>d4G d xs h Q g) (Hk)
def rpC(l:Y15)(i:Int)(g:Heap)(id:Nat)(c j:Y12)(k:Nat):Prop:=DZ l i c/\SzY l k c j/\g.get id= .cells (j.map (IV.int .i64))
def rpA(l:Y15)(i:Int):Inv':=eY (Nat×Heap×Nat×Y12×Y12) (fun x=>[(0,.v (.vslice none 0 (l).length 3 ((l).flatMap cN))),(1,.v (.int .i64 i)),(5,.v (.vslice none 0 (x.2.2.2.1).length 1 ((x.2.2.2.1).map (IV.int .i64)))),(6,.v (.hslice x.2.2.1 0 l.length 1)),(7,.v (.int .i64 (x.1:Int)))]) (fun _=>[]) (fun x=>x.2.1) (fun x=>rpC l i x.2.1 x.2.2.1 x.2.2.2.1 x.2.2.2.2 x.1/\x.1<=x.2.2.2.1.length) (fun x=>x.2.2.2.1.length-x.1)
def rpB(l:Y15)(i:Int):Inv':=eY (Nat×Heap×Nat×Y12×Y12×Nat) (fun x=>[(0,.v (.vslice none 0 (l).length 3 ((l).flatMap cN))),(1,.v (.int .i64 i)),(5,.v (.vslice none 0 (x.2.2.2.1).length 1 ((x.2.2.2.1).map (IV.int .i64)))),(6,.v (.hslice x.2.2.1 0 l.length 1)),(7,.v (.int .i64 (x.1:Int))),(8,.l 8 0),(11,.v (.int .i64 (rZ (mY l (x.2.2.2.1.getD x.1 0) x.2.2.2.2.2)))),(12,.v (.int .i64 (x.2.2.2.2.2:Int)))]) (fun x=>[(8,[.int .i64 (l.getD (x.2.2.2.1.getD x.1 0).toNat default).op,.int .i64 (l.getD (x.2.2.2.1.getD x.1 0).toNat default).im,.vslice none 0 ((l.getD (x.2.2.2.1.getD x.1 0).toNat default).ks).length 1 (((l.getD (x.2.2.2.1.getD x.1 0).toNat default).ks).map (IV.int .i64))])]) (fun x=>x.2.1) (fun x=>rpC l i x.2.1 x.2.2.1 x.2.2.2.1 x.2.2.2.2.1 x.1/\(x.1<x.2.2.2.1.length/\x.2.2.2.2.2<=(l.getD (x.2.2.2.1.getD x.1 0).toNat default).ks.length)) (fun x=>(x.2.2.2.1.length-x.1)*1000001+((l.getD (x.2.2.2.1.getD x.1 0).toNat default).ks.length-x.2.2.2.2.2))
def G0(xs:Y14)(h:Heap)(K:KT):Prop:=match xs with
 | [.vslice none e1 n1 3 c1,.int .i64 i]=> ∃l:Y15,(n1=l.length/\c1=l.flatMap cN)/\D7 l/\K (.str (D8 l i)) h
 |_=>False
def kF(g:Nat×Heap×Nat×Y12×Y12×Nat):=g.2.2.2
def zF(l:Y15)(g:Nat×Heap×Nat×Y12×Y12×Nat):=List.getD l ((List.getD ((kF g).1) g.1 0).toNat) default
def nX(l:Y15):=l.length
def G1(l:Y15):=TV.v (.vslice none 0 (nX l) 3 (List.flatMap cN l))
def K6(g:Nat×Heap×Nat×Y12×Y12×Nat):=((kF g).2).2
def Ay(l:Y15)(g:Nat×Heap×Nat×Y12×Y12×Nat):=mY l (List.getD ((kF g).1) g.1 0) (K6 g)
def xR(x:Nat×Heap×Nat×Y12×Y12):=x.2.2.2.1
def pV:=IV.int .i64
def b8O(l:Y15)(g:Nat×Heap×Nat×Y12×Y12×Nat):=[iI (Nd.op (zF l g)),iI (Nd.im (zF l g)),IV.vslice none 0 ((Nd.ks (zF l g)).length) 1 (List.map pV (Nd.ks (zF l g)))]
def G3(g:Nat×Heap×Nat×Y12×Y12×Nat):=g.2.2.1
abbrev c8L(l:Y15)(i:Int)(g:Nat×Heap×Nat×Y12×Y12×Nat):=(DZ l i ((kF g).1)/\SzY l g.1 ((kF g).1) (((kF g).2).1)/\Heap.get g.2.1 (G3 g)=IObj.cells (List.map pV (((kF g).2).1)))/\g.1< ((kF g).1).length/\Prod.snd ((kF g).2)<=List.length (Nd.ks (zF l g))
def b0J(g:Nat×Heap×Nat×Y12×Y12×Nat):=TV.v (.vslice none 0 (((kF g).1).length) 1 (List.map pV ((kF g).1)))
def G4(i:Int):=TV.v (.int .i64 i)
abbrev b0K(l:Y15)(g:Nat×Heap×Nat×Y12×Y12×Nat):=((K6 g):Int)< (↑((Nd.ks (zF l g)).length):Int)
def Ya(l:Y15)(g:Nat×Heap×Nat×Y12×Y12×Nat):=(Nd.ks (zF l g)).length- ((kF g).2).2
def b8P(x:Nat×Heap×Nat×Y12×Y12):=TV.v (.vslice none 0 ((xR x).length) 1 (List.map pV (xR x)))
def Nr:=TV.l 8 0
def Yb(g:Nat×Heap×Nat×Y12×Y12×Nat):=((kF g).1).length-g.1
def b8Q(l:Y15)(x:Nat×Heap×Nat×Y12×Y12):=TV.v (.hslice x.2.2.1 0 (nX l) 1)
def b8R:=TV.v (.int .i64 0)
def c8M(g:Nat×Heap×Nat×Y12×Y12×Nat):=decide (0<=(g.1:Int)) &&decide ((g.1:Int)< (↑(((kF g).1).length):Int))
def b0L(l:Y15)(g:Nat×Heap×Nat×Y12×Y12×Nat):=TV.v (.hslice (G3 g) 0 (nX l) 1)
def b0M(i:Int)(l:Y15)(x:Nat×Heap×Nat×Y12×Y12)(j:Nat×Heap×Nat×Y12×Y12×Nat)(y0:Heap):Prop:= ∃(g:Nat×Heap×Nat×Y12×Y12),some (G1 l)=some (G1 l)/\some (G4 i)=some (G4 i)/\some (b0J j)=some (TV.v (.vslice none 0 g.2.2.2.1.length 1 (List.map pV g.2.2.2.1)))/\some (b0L l j)=some (TV.v (.hslice g.2.2.1 0 (nX l) 1))/\tI (wW ((j.1:Int)+1))
 =tI (g.1:Int)/\y0=g.2.1/\((DZ l i g.2.2.2.1/\SzY l g.1 g.2.2.2.1 g.2.2.2.2/\Heap.get g.2.1 g.2.2.1=IObj.cells (List.map pV g.2.2.2.2))/\g.1<=g.2.2.2.1.length)/\g.2.2.2.1.length-g.1< (xR x).length-x.1
def b0N(i:Int)(l:Y15)(j:Nat×Heap×Nat×Y12×Y12×Nat)(y0:Int):Prop:= ∃(g:Nat×Heap×Nat×Y12×Y12×Nat),some (G1 l)=some (G1 l)/\some (G4 i)=some (G4 i)/\some (b0J j)=some (TV.v (.vslice none 0 g.2.2.2.1.length 1 (List.map pV g.2.2.2.1)))/\some (b0L l j)=some (TV.v (.hslice g.2.2.1 0 (nX l) 1))/\tI (j.1:Int)=
 tI (g.1:Int)/\some Nr=some Nr/\tI (y0)=tI (rZ (mY l (List.getD g.2.2.2.1 g.1 0) g.2.2.2.2.2))/\tI (wW (((K6 j):Int)+1))=tI (g.2.2.2.2.2:Int)/\some (b8O l j)=some [iI (Nd.op (List.getD l ((List.getD g.2.2.2.1 g.1 0).toNat) default)),iI (Nd.im (List.getD l
 ((List.getD g.2.2.2.1 g.1 0).toNat) default)),IV.vslice none 0 ((Nd.ks (List.getD l ((List.getD g.2.2.2.1 g.1 0).toNat) default)).length) 1 (List.map pV (Nd.ks (List.getD l ((List.getD g.2.2.2.1 g.1 0).toNat) default)))]/\j.2.1=g.2.1/\((DZ l i g.2.2.2.1/\SzY l g.1
 g.2.2.2.1 g.2.2.2.2.1/\Heap.get g.2.1 g.2.2.1=IObj.cells (List.map pV g.2.2.2.2.1))/\g.1<g.2.2.2.1.length/\g.2.2.2.2.2<=List.length (Nd.ks (List.getD l ((List.getD g.2.2.2.1 g.1 0).toNat) default)))/\(g.2.2.2.1.length-g.1)*1000001+((Nd.ks (List.getD l (Int.toNat
 (List.getD g.2.2.2.1 g.1 0)) default)).length-g.2.2.2.2.2)< (Yb j)*1000001+(Ya l j)
theorem b0O(l:Y15)(i:Int)(e1:Nat)(h:Heap)(Q:KT):dF (aS b0H) env 14 dL (N6 5 (rpA l i) (kR 1000013 (rpB l i))) bS [.vslice none e1 (l).length 3 ((l).flatMap cN),.int .i64 i] h Q=(
 aD (aM [IV.vslice none 0 (nX l) 3 (List.flatMap cN l),iI i]) (∃(A:Y15),(l.length=A.length/\List.flatMap cN l=List.flatMap cN A)/\D7 A/\∀(c:Y12),DZ A i c->aD (decide (0<=((nX l):Int)) && (decide (((nX l):Int)<=((nX l):Int)) && (decide (((nX l):Int)<=9223372036854775807) &&decide ((8:Int)*((nX l):Int)<=140737488355328)))) ((∃(x:Nat×Heap×Nat×Y12×Y12),some (G1 l)=some (G1 l)/\some (G4 i)=some (G4 i)/\some (TV.v (.vslice none 0 c.length 1 (List.map pV c)))=some (b8P x)/\some (TV.v (.hslice 0 0 (((nX l):Int).toNat) 1))=some (b8Q l x)/\some b8R=tI (x.1:Int)/\Heap.mk (PT.node PT.nil (some (IObj.cells (fQ (((nX l):Int).toNat) [iI 0]))) PT.nil) ((0:Nat)+1)=x.2.1/\((DZ l i (xR x)/\SzY l x.1 (xR x) x.2.2.2.2/\Heap.get x.2.1 x.2.2.1=IObj.cells (List.map pV x.2.2.2.2))/\x.1<=List.length (xR x))/\True)/\∀(x:Nat×Heap×Nat×Y12×Y12)(b:FF),rpC l i x.2.1 x.2.2.1 (xR x) x.2.2.2.2 x.1/\x.1<=List.length (xR x)->aJ (decide ((x.1:Int)< (↑((xR x).length):Int))) (aD (decide (0<=(x.1:Int)) &&decide ((x.1:Int)< (↑((xR x).length):Int))) (aI .i64 (List.map pV (xR x)) ((x.1:Int).toNat*1) fun O=>aD (decide (0<=O) &&decide (O< ((nX l):Int))) (aI .i64 (List.flatMap cN l) (O.toNat*3) fun z=>aI .i64 (List.flatMap cN l) (O.toNat*3+1) fun G=>aX 1 (List.flatMap cN l) (O.toNat*3+1+1) fun(i3:Y10)(e4 X:Nat)(V:Y14)=> ∃(ks:Y12),(X=ks.length/\V=List.map pV ks)/\aR z/\aR G/\aJ (!lf z) (∃(M:Nat),(∃(g:Nat×Heap×Nat×Y12×Y12×Nat),some (G1 l)=some (G1 l)/\some (G4 i)=some (G4 i)/\some (b8P x)=some (b0J g)/\some (b8Q l x)=some (b0L l g)/\tI (x.1:Int)=tI (g.1:Int)/\some Nr=some Nr/\tI (wW ((↑(List.length (if lf z=true then lfT z G else yZ z G)):Int)+2))=tI (rZ (Ay l g))/\some b8R=tI ((K6 g):Int)/\some [iI z,iI G,IV.vslice i3 e4 X 1 V]=some (b8O l g)/\x.2.1=g.2.1/\(c8L l i g)/\(Yb g)*1000001+(Ya l g)<=M)/\∀(g:Nat×Heap×Nat×Y12×Y12×Nat)(b:FF),rpC l i g.2.1 (G3 g) ((kF g).1) (((kF g).2).1) g.1/\Prod.fst g< ((kF g).1).length/\Prod.snd ((kF g).2)<=List.length (Nd.ks (zF l g))->(Yb g)*1000001+(Ya l g)<=M->aJ (decide (b0K l g)) (aD (decide (0<=((K6 g):Int)) &&decide (b0K l g)) (aI .i64 (List.map pV (Nd.ks (zF l g))) (((K6 g):Int).toNat*1) fun Z=>aD (decide (0<=Z) &&decide (Z< ((nX l):Int))) (aE g.2.1 (G3 g) fun r8=>aI .i64 r8 ((0:Nat)+Z.toNat*1) fun n9=>b0N i l g (if(20001:Int)<wW (wW (rZ (Ay l g)+1)+n9)then(20001:Int)else wW (wW (rZ (Ay l g)+1)+n9))))) (aD (c8M g) (aI .i64 (List.map pV ((kF g).1)) (((g.1):Int).toNat*1) fun p=>aD (decide (0<=p) &&decide (p< ((nX l):Int))) (aE g.2.1 (G3 g) fun K=>aD (Nat.ble ((0:Nat)+p.toNat*1+1) K.length) (b0M i l x g ((g.2.1).set (G3 g) (IObj.cells (List.take ((0:Nat)+p.toNat*1) K++ [iI (rZ (Ay l g))]++List.drop ((0:Nat)+p.toNat*1+1) K)))))))) (∃(M:Nat),(∃(g:Nat×Heap×Nat×Y12×Y12×Nat),some (G1 l)=some (G1 l)/\some (G4 i)=some (G4 i)/\some (b8P x)=some (b0J g)/\some (b8Q l x)=some (b0L l g)/\tI (x.1:Int)=tI (g.1:Int)/\some Nr=some Nr/\tI (↑(List.length (if lf z=true then lfT z G else yZ z G)):Int)=tI (rZ (Ay l g))/\some b8R=tI ((K6 g):Int)/\some [iI z,iI G,IV.vslice i3 e4 X 1 V]=some (b8O l g)/\Prod.fst (x.2)=g.2.1/\(c8L l i g)/\(Yb g)*1000001+(Ya l g)<=M)/\∀(g:Nat×Heap×Nat×Y12×Y12×Nat)(b:FF),rpC l i g.2.1 (G3 g) ((kF g).1) (((kF g).2).1) g.1/\g.1< ((kF g).1).length/\Prod.snd ((kF g).2)<=List.length (Nd.ks (zF l g))->(Yb g)*1000001+(Ya l g)<=M->aJ (decide (b0K l g)) (aD (decide (0<=((K6 g):Int)) &&decide (b0K l g)) (aI .i64 (List.map pV (Nd.ks (zF l g))) (((K6 g):Int).toNat*1) fun D=>aD (decide (0<=D) &&decide (D< ((nX l):Int))) (aE g.2.1 (G3 g) fun a0=>aI .i64 a0 ((0:Nat)+D.toNat*1) fun T=>b0N i l g (if(20001:Int)<wW (wW (rZ (Ay l g)+1)+T)then(20001:Int)else wW (wW (rZ (Ay l g)+1)+T))))) (aD (c8M g) (aI .i64 (List.map pV ((kF g).1)) (((g.1):Int).toNat*1) fun u=>aD (decide (0<=u) &&decide (u< ((nX l):Int))) (aE g.2.1 (G3 g) fun L=>aD (Nat.ble ((0:Nat)+u.toNat*1+1) L.length) (b0M i l x g ((g.2.1).set (G3 g) (IObj.cells (List.take ((0:Nat)+u.toNat*1) L++ [iI (rZ (Ay l g))]++List.drop ((0:Nat)+u.toNat*1+1) L))))))))))) (aJ ((↑((xR x).length):Int)==0) (Q (.str []) h) (aD (decide (0<=i) &&decide (i< ((nX l):Int))) (aE x.2.1 x.2.2.1 fun a1=>aI .i64 a1 ((0:Nat)+i.toNat*1) fun Y=>aJ (decide (Y>20000)) (Q (.str []) h) (∃(d:Nat)(j:Y15),(l.length=j.length/\List.flatMap cN l=List.flatMap cN j)/\D7 j/\(0<=i/\i< (d:Int)/\i< (j.length:Int)/\List.getD (aK j) i.toNat 0≠0)/\List.length (pU j i.toNat)<=20000/\Q (.str (pU j (i.toNat))) h))))))):=by kernel_rfl
theorem b0P: ∀xs h Q,G0 xs h Q->aO env 14 xs h Q:=by
 intro xs h Q hk;unfold G0 at hk;split at hk
 ·rename_i e1 n1 c1 i;obtain⟨l,⟨rfl,rfl⟩,hg,hk⟩:=hk;refine aN (b0I) (b0O l i e1 h Q) ?_;delta b0M b0N zF kF G1 Ay xR pV b8O c8L b0J G3 G4 b0K Ya nX b8P Nr Yb b8Q b8R K6 c8M b0L tI wW iI;have tn: ∀x:Nat,(x:Int).toNat=x:=AE
  have b2:=hg;obtain⟨hn,c8⟩:=hg;have hS: ∀v,D8 l i=v->Q (.str v) h:=fun v e=>by rw [e]at hk;exact hk
  refine aA (by simp only [aM,bI,cI,AT]) ⟨l,⟨rfl,rfl⟩,b2,fun c O=>aA (by simp;omega) ⟨⟨(0,_,0,c,List.replicate l.length 0),IR,IR,IR,IR,IR,IR,⟨⟨O,⟨IP,fun q x hq=>absurd hq (DJ _)⟩,?_⟩,AR _⟩,trivial⟩,?_⟩⟩
  ·show IObj.cells (fQ _ _)=_;rw [N7,tn]
  rintro⟨k,g,id,c,a7⟩ _ ⟨⟨O,V,A⟩,a8⟩;dsimp only at O V A a8⊢;refine dA (fun c1=>?_) (fun c1=>?_)
  ·have Y:k<c.length:=IM;obtain⟨hw,hd⟩:(0<=i/\i< (l.length:Int)/\(aK l).getD i.toNat 0≠0)/\Xi l i.toNat c:=by
    rcases O with⟨rfl,_⟩|O
    ·exact absurd Y (DJ _)
    ·exact O
   have Z:=hd.1 _ (AG Y);have a6:(c[k]).toNat<l.length:=IM;have eC:c.getD k 0=c[k]:=Go.M14.mF Y;have eD:l.getD (c[k]).toNat default=l[(c[k]).toNat]:=Go.M14.mF a6;have w:=wfN a6 Z.2.2;obtain⟨a9,a1,c6⟩:=hn _ (AG a6);have b5:=b4Y (op:=l[(c[k]).toNat].op) a1;refine aA (by simp;omega) (fT Y (by rw [AO,tn]) (aA (by simp;omega) (oR a6 rfl ⟨l[(c[k]).toNat].ks,⟨rfl,rfl⟩,a9,a1,aC (fun cf=>?_) (fun cf=>?_)⟩)))
   ·rw [CH]at cf;refine⟨(c.length-k)*1000001+l[(c[k]).toNat].ks.length,⟨(k,g,id,c,a7,0),IR,IR,IR,IR,IR,IR,?_,IR,?_,IR,⟨⟨.inr ⟨hw,hd⟩,V,A⟩,Y,AR _⟩,?_⟩,?_⟩
    ·dsimp only;rw [eC,if_neg (by rw [cf];exact CG),AB _ IM];unfold mY
     rw [eD,if_neg (by rw [cf];exact CG),List.take_zero,show sN (sC l) []=[]from rfl,AY,a1N IM];rfl
    ·dsimp only;rw [eC,eD]
    ·dsimp only;rw [eC,eD];omega
    clear O V A a8 hd hw Z a9 a1 b5 cf w;rintro⟨D,g2,a5,z,K,j⟩ _ ⟨⟨O,V,A⟩,u,hj⟩ hM;dsimp only at O V A u hj hM⊢;obtain⟨hw,hd⟩:(0<=i/\i< (l.length:Int)/\(aK l).getD i.toNat 0≠0)/\Xi l i.toNat z:=by
     rcases O with⟨rfl,_⟩|O
     ·exact absurd u (DJ _)
     ·exact O
    have Z:=hd.1 _ (AG u);have G:(z[D]).toNat<l.length:=IM;have L:z.getD D 0=z[D]:=Go.M14.mF u;have X:l.getD (z[D]).toNat default=l[(z[D]).toNat]:=Go.M14.mF G;have w:=wfN G Z.2.2;have b4:=(hn _ (AG G)).2.2;have a3:=fun t h=>Sa (t:=t) w h
    have a2:=a1Q w;have a4:=w.ks;have b7:=hd.2.2.2;have a0:=hd.2.1 D _ (AA u);have b6:=Ry (mY l z[D] j);simp only [L,X]at hj hM a3 a2 a4 a0⊢;refine dA (fun c4=>?_) (fun c4=>?_)
    ·have T:j<l[(z[D]).toNat].ks.length:=IM;obtain⟨p,b0,b1⟩:=a0 _ (AG T);have c0:=a4 _ (AG T);have ho:=V.2 p _ b0 b1;have hq:(l[(z[D]).toNat].ks[j]).toNat<K.length:=by rw [V.1];omega
     rw [AA hq,AC]at ho;have b9:=Ry (pU l (l[(z[D]).toNat].ks[j]).toNat).length;refine aA (by simp;omega) (fT T (by rw [AO,tn]) (aA (by simp;omega) (aB A (fT hq IM ?_))));rw [ho,AB (rZ _+1) IM,AB (rZ _+1+rZ _) IM,Rz,<-a3 j T];refine⟨(D,g2,a5,z,K,j+1),IR,IR,IR,IR,IR,IR,?_,?_,?_,IR,⟨⟨O,V,A⟩,u,?_⟩,?_⟩
     ·dsimp only;rw [L]
     ·dsimp only;rw [AB _ IM];rfl
     ·dsimp only;rw [L,X]
     ·dsimp only;rw [L,X];exact T
     ·dsimp only;rw [L,X];omega
    ·obtain rfl:j=l[(z[D]).toNat].ks.length:=IM;have hq:(z[D]).toNat<K.length:=by rw [V.1];exact G
     refine aA (by simp;omega) (fT u (by rw [AO,tn]) (aA (by simp;omega) (aB A (aA (by rw [AM];simp;omega) ⟨(D+1,_,a5,z,K.set (z[D]).toNat (rZ (pU l (z[D]).toNat).length)),IR,IR,IR,IR,?_,IR,⟨⟨O,V.set (AA u) hq,?_⟩,?_⟩,?_⟩))))
     ·dsimp only;rw [AB _ IM];rfl
     ·rw [a2];refine aH.trans ?_;dsimp only;rw [<-a1P hq,BT,AO]
     ·dsimp only;omega
     ·dsimp only;omega
   ·rw [CV]at cf;have c7:=b4X a1 cf;refine⟨(c.length-k)*1000001+l[(c[k]).toNat].ks.length,⟨(k,g,id,c,a7,0),IR,IR,IR,IR,IR,IR,?_,IR,?_,IR,⟨⟨.inr ⟨hw,hd⟩,V,A⟩,Y,AR _⟩,?_⟩,?_⟩
    ·dsimp only;rw [eC,if_pos cf];unfold mY
     rw [eD,if_pos cf,a1N IM]
    ·dsimp only;rw [eC,eD]
    ·dsimp only;rw [eC,eD];omega
    clear O V A a8 hd hw Z a9 a1 b5 cf w;rintro⟨D,g2,a5,z,K,j⟩ _ ⟨⟨O,V,A⟩,u,hj⟩ hM;dsimp only at O V A u hj hM⊢;obtain⟨hw,hd⟩:(0<=i/\i< (l.length:Int)/\(aK l).getD i.toNat 0≠0)/\Xi l i.toNat z:=by
     rcases O with⟨rfl,_⟩|O
     ·exact absurd u (DJ _)
     ·exact O
    have Z:=hd.1 _ (AG u);have G:(z[D]).toNat<l.length:=IM;have L:z.getD D 0=z[D]:=Go.M14.mF u;have X:l.getD (z[D]).toNat default=l[(z[D]).toNat]:=Go.M14.mF G;have w:=wfN G Z.2.2;have b4:=(hn _ (AG G)).2.2;have a3:=fun t h=>Sa (t:=t) w h
    have a2:=a1Q w;have a4:=w.ks;have b7:=hd.2.2.2;have a0:=hd.2.1 D _ (AA u);have b6:=Ry (mY l z[D] j);simp only [L,X]at hj hM a3 a2 a4 a0⊢;refine dA (fun c4=>?_) (fun c4=>?_)
    ·have T:j<l[(z[D]).toNat].ks.length:=IM;obtain⟨p,b0,b1⟩:=a0 _ (AG T);have c0:=a4 _ (AG T);have ho:=V.2 p _ b0 b1;have hq:(l[(z[D]).toNat].ks[j]).toNat<K.length:=by rw [V.1];omega
     rw [AA hq,AC]at ho;have b9:=Ry (pU l (l[(z[D]).toNat].ks[j]).toNat).length;refine aA (by simp;omega) (fT T (by rw [AO,tn]) (aA (by simp;omega) (aB A (fT hq IM ?_))));rw [ho,AB (rZ _+1) IM,AB (rZ _+1+rZ _) IM,Rz,<-a3 j T];refine⟨(D,g2,a5,z,K,j+1),IR,IR,IR,IR,IR,IR,?_,?_,?_,IR,⟨⟨O,V,A⟩,u,?_⟩,?_⟩
     ·dsimp only;rw [L]
     ·dsimp only;rw [AB _ IM];rfl
     ·dsimp only;rw [L,X]
     ·dsimp only;rw [L,X];exact T
     ·dsimp only;rw [L,X];omega
    ·obtain rfl:j=l[(z[D]).toNat].ks.length:=IM;have hq:(z[D]).toNat<K.length:=by rw [V.1];exact G
     refine aA (by simp;omega) (fT u (by rw [AO,tn]) (aA (by simp;omega) (aB A (aA (by rw [AM];simp;omega) ⟨(D+1,_,a5,z,K.set (z[D]).toNat (rZ (pU l (z[D]).toNat).length)),IR,IR,IR,IR,?_,IR,⟨⟨O,V.set (AA u) hq,?_⟩,?_⟩,?_⟩))))
     ·dsimp only;rw [AB _ IM];rfl
     ·rw [a2];refine aH.trans ?_;dsimp only;rw [<-a1P hq,BT,AO]
     ·dsimp only;omega
     ·dsimp only;omega
  ·have Y:k=c.length:=IM;rcases O with⟨rfl,hx⟩| ⟨hw,hd⟩
   ·refine aC (fun _=>hS [] ?_) (fun z=>by cases z);unfold D8
    exact if_neg fun q=>hx ⟨q.1,q.2.1,q.2.2.1⟩
   ·obtain⟨p,hp⟩:=hd.2.2.1;have c9:=(BB.1 hp).1;have ho:=V.2 p _ IM hp;rw [AE]at ho;have b3:i.toNat<a7.length:=by rw [V.1];omega
    have c5:a7[i.toNat]=rZ (pU l i.toNat).length:=by
     rw [AA b3,AC]at ho;exact ho
    refine aC (fun z=>absurd (beq_iff_eq.1 z) IM) (fun _=>aA (by simp;omega) (aB A (fT b3 IM ?_)));rw [c5];refine dA (fun c3=>hS [] ?_) (fun c3=>?_)
    ·rw [gt_iff_lt,a1O]at c3;unfold D8
     exact if_neg fun q=>IM
    ·rw [gt_iff_lt,a1O]at c3;refine⟨i.toNat+1,l,⟨rfl,rfl⟩,b2,⟨hw.1,IM,hw.2.1,hw.2.2⟩,IM,hS _ ?_⟩;unfold D8
     exact if_pos ⟨hw.1,hw.2.1,hw.2.2,IM⟩
 ·exact hk.elim
def G5:=aT 14 G0 b0H
theorem Q5:aP env G5:=aF b0P (b0I)
end Go.Proofs.YtkonebkblgemkaaGreat
end
end
