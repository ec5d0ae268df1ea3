/-
  Texts of this proof, one after the other.
  Conditions: none.
-/
import Derived.Test.YtkonebkblgemkaaGreatW5
set_option linter.unusedVariables false
set_option linter.unusedSimpArgs false
set_option maxRecDepth 100000
set_option maxHeartbeats 4000000
noncomputable section
variable{i j m b:Nat}{x y z u v:Int}{h g:Go.Pv.Heap}{c d l:List Go.Pv.IV}{K L:Y12}{p s t:Go.Pv.IV}{D:Go.Pv.Meta}{V W:List Go.Value}{T U:Go.TypeId}{o:Bool}{X Y:Go.Value}{O:Go.Oper}{N:Y10}{H:Array Go.Value}
section
namespace Go.M10
open Go.M15 Go.Pv
inductive E where
 |mk (k n:Int) (nm:Y11) (op:Int) (ks:List E)
 deriving Inhabited
inductive S where
 |mk (k:Int) (nm to:Y11) (n:Int) (a v:E) (args:List E) (th el:List S)
 deriving Inhabited
mutual
def cE:E->Y14
 | .mk k n nm op ks=>[.int .i64 k,.int .i64 n,.str nm,.int .i64 op,.vslice none 0 ks.length 5 (aW ks)]
def aW:List E->Y14
 | []=>[]
 |e::r=>cE e++aW r
end
mutual
def cS:S->Y14
 | .mk k nm to n a v args th el=>[.int .i64 k,.str nm,.str to,.int .i64 n]++cE a++cE v++ [.vslice none 0 args.length 5 (aW args),.vslice none 0 th.length 17 (aY th),.vslice none 0 el.length 17 (aY el)]
def aY:List S->Y14
 | []=>[]
 |s::r=>cS s++aY r
end
def E.k:E->Int| .mk k _ _ _ _=>k
def E.n:E->Int| .mk _ n _ _ _=>n
def E.nm:E->Y11| .mk _ _ nm _ _=>nm
def E.op:E->Int| .mk _ _ _ op _=>op
def E.ks:E->List E| .mk _ _ _ _ ks=>ks
def e0:E:= .mk 0 0 [] 0 []
theorem T3(e:E):(cE e).length=5:=by cases e;rfl
theorem Kb(s:S):(cS s).length=17:=by
 cases s
 simp only [cS,AH,AK,AY,T3]
theorem B5: ∀(a b:List S),aY (a++b)=aY a++aY b
 | [],b=>rfl
 |x::a,b=>by simp only [CQ,aY,B5 a b,DM]
theorem wR: ∀{ks:List E}{i j:Nat}(h:i<ks.length),j<5->(aW ks)[i*5+j]?=(cE ks[i])[j]?
 |t::r,0,j,h,hj=>by
  rw [aW,EX,BT,BD (by rw [T3];exact hj)];rfl
 |x::r,i+1,j,h,hj=>by
  rw [aW,BU (by rw [T3];omega),T3,show(i+1)*5+j-5=i*5+j by omega];exact wR (ks:=r) (by simpa using h) hj
theorem wS: ∀{ks:List S}{i j:Nat}(h:i<ks.length),j<17->(aY ks)[i*17+j]?=(cS ks[i])[j]?
 |t::r,0,j,h,hj=>by
  rw [aY,EX,BT,BD (by rw [Kb];exact hj)];rfl
 |x::r,i+1,j,h,hj=>by
  rw [aY,BU (by rw [Kb];omega),Kb,show(i+1)*17+j-17=i*17+j by omega];exact wS (ks:=r) (by simpa using h) hj
theorem ldE{ks:List E}{i o:Nat}{K:Int->Int->Y11->Int->Y10->Nat->Nat->Y14->Prop}(h:i<ks.length)(A:o=i*5)
  (hk:K ks[i].k ks[i].n ks[i].nm ks[i].op none 0 ks[i].ks.length (aW ks[i].ks)):
  aI .i64 (aW ks) o fun a=>aI .i64 (aW ks) (o+1) fun b=>bL (aW ks) (o+1+1) fun c=>aI .i64 (aW ks) (o+1+1+1) fun d=>aX 5 (aW ks) (o+1+1+1+1) fun p q r s=>K a b c d p q r s:=by
 subst A;have e0:=wR (j:=0) h IM;have g:=wR (j:=1) h IM;have l:=wR (j:=2) h IM;have u:=wR (j:=3) h IM;have z:=wR (j:=4) h IM;generalize ks[i]=t at*
 cases t
 unfold aI bL aX
 simp only [FL]at e0;simp only [FD,Nat.reduceAdd,e0,g,l,u,z];exact hk
mutual
theorem uS: ∀e:E,aM (cE e)=true
 | .mk k n nm op ks=>by simp only [cE,aM,bI,cB ks,AT]
theorem cB: ∀ks:List E,aM (aW ks)=true
 | []=>rfl
 |t::r=>by simp only [aW,bF,uS t,cB r,AT]
end
mutual
theorem a0F: ∀s:S,aM (cS s)=true
 | .mk k nm to n a v args th el=>by simp only [cS,aM,bI,bF,uS,cB,bN th,bN el,AT]
theorem bN: ∀ks:List S,aM (aY ks)=true
 | []=>rfl
 |t::r=>by simp only [aY,bF,a0F t,bN r,AT]
end
def bM(f:Int):List (Y11):=if f=0 then [[120],[121],[105],[106]]else [[110],[105]]
def nK:List (Y11):=[[97],[98]]
def K0(f k n:Int)(nm:Y11)(op:Int)(m:Nat):Prop:=
 (k=1/\nm=[]/\op=0/\m=0/\aR n) \/ (k=2/\n=0/\op=0/\m=0/\nm∈bM f) \/ (k=3/\n=0/\op=0/\m=1/\nm∈nK) \/
 (k=4/\n=0/\nm=[]/\((m=2/\4<=op/\op<=18) \/ (m=1/\20<=op/\op<=21))) \/ (k=5/\n=0/\nm=[]/\op=0/\m=3)
mutual
def E.wf(f:Int):E->Prop
 | .mk k n nm op ks=>K0 f k n nm op ks.length/\Es.wf f ks
def Es.wf(f:Int):List E->Prop
 | []=>True
 |e::r=>e.wf f/\Es.wf f r
end
mutual
def E.dp:E->Nat
 | .mk _ _ _ _ ks=>Es.dp ks
def Es.dp:List E->Nat
 | []=>0
 |e::r=>max (1+e.dp) (Es.dp r)
end
mutual
def E.cost:E->Nat
 | .mk k _ _ _ ks=>(if k=2\/k=0 then 0 else 4)+Es.cost ks
def Es.cost:List E->Nat
 | []=>0
 |e::r=>e.cost+Es.cost r
end
def jX(f k:Int)(nm i:Y11)(n:Int)(a v:E)(g:List E)(l j:List S):Prop:=
 (k=1/\nm∈bM f/\i=[]/\n=0/\a=e0/\v.wf f/\g=[]/\l=[]/\j=[]) \/
 (k=2/\nm∈nK/\i=[]/\n=0/\a.wf f/\v.wf f/\g=[]/\l=[]/\j=[]) \/
 (k=3/\nm=[]/\i=[]/\n=0/\a=e0/\v.wf f/\g=[]) \/
 (k=4/\nm=[]/\i=[]/\n=0/\a=e0/\v.wf f/\g=[]/\j=[]) \/
 (k=5/\nm=[]/\i=[]/\n=0/\a=e0/\v.wf f/\g=[]/\l=[]/\j=[]) \/
 (k=6/\nm∈bM f/\((i=[102]/\g.length=2) \/ (i=[103]/\g.length=1))/\n=0/\a=e0/\v=e0/\Es.wf f g/\l=[]/\j=[]) \/
 (k=7/\nm=[]/\i=[]/\(0<=n/\n<1000)/\a=e0/\v=e0/\g=[]/\l=[]/\j=[])
mutual
def S.wf(f:Int):S->Prop
 | .mk k nm to n a v args th el=>jX f k nm to n a v args th el/\Ss.wf f th/\Ss.wf f el
def Ss.wf(f:Int):List S->Prop
 | []=>True
 |s::r=>s.wf f/\Ss.wf f r
end
mutual
def S.cnt:S->Nat
 | .mk _ _ _ _ _ _ _ th el=>1+Ss.cnt th+Ss.cnt el
def Ss.cnt:List S->Nat
 | []=>0
 |s::r=>s.cnt+Ss.cnt r
end
mutual
def S.whl:S->Nat
 | .mk k _ _ _ _ _ _ th el=>(if k=4 then 1 else 0)+Ss.whl th+Ss.whl el
def Ss.whl:List S->Nat
 | []=>0
 |s::r=>s.whl+Ss.whl r
end
mutual
def S.dp(d:Nat):S->Nat
 | .mk _ _ _ _ _ _ _ th el=>max d (max (Ss.dp (d+1) th) (Ss.dp (d+1) el))
def Ss.dp(d:Nat):List S->Nat
 | []=>0
 |s::r=>max (s.dp d) (Ss.dp d r)
end
mutual
def S.ed(m:Nat):S->Prop
 | .mk _ _ _ _ a v args th el=>(a.dp<=m/\v.dp<=m/\∀e∈args,e.dp<=m)/\Ss.ed m th/\Ss.ed m el
def Ss.ed(m:Nat):List S->Prop
 | []=>True
 |s::r=>s.ed m/\Ss.ed m r
end
mutual
def S.cost:S->Nat
 | .mk k _ _ _ a v args th el=>16+a.cost+2*v.cost+Es.cost args+Ss.cost th+Ss.cost el
def Ss.cost:List S->Nat
 | []=>0
 |s::r=>s.cost+Ss.cost r
end
theorem Es.wf_append{f:Int} : ∀{a b:List E},Es.wf f (a++b) ↔ Es.wf f a/\Es.wf f b
 | [],b=>by simp [Es.wf]
 |x::a,b=>by simp [Es.wf,Es.wf_append (a:=a),and_assoc]
theorem Es.cost_append: ∀{a b:List E},Es.cost (a++b)=Es.cost a+Es.cost b
 | [],b=>by simp [Es.cost]
 |x::a,b=>by simp [Es.cost,Es.cost_append (a:=a)];omega
theorem Ss.wf_append{f:Int} : ∀{a b:List S},Ss.wf f (a++b) ↔ Ss.wf f a/\Ss.wf f b
 | [],b=>by simp [Ss.wf]
 |x::a,b=>by simp [Ss.wf,Ss.wf_append (a:=a),and_assoc]
theorem Ss.cnt_append: ∀{a b:List S},Ss.cnt (a++b)=Ss.cnt a+Ss.cnt b
 | [],b=>by simp [Ss.cnt]
 |x::a,b=>by simp [Ss.cnt,Ss.cnt_append (a:=a)];omega
theorem Ss.whl_append: ∀{a b:List S},Ss.whl (a++b)=Ss.whl a+Ss.whl b
 | [],b=>by simp [Ss.whl]
 |x::a,b=>by simp [Ss.whl,Ss.whl_append (a:=a)];omega
theorem Ss.dp_append{d:Nat} : ∀{a b:List S},Ss.dp d (a++b)=max (Ss.dp d a) (Ss.dp d b)
 | [],b=>by simp [Ss.dp]
 |x::a,b=>by rw [CQ,Ss.dp,Ss.dp,Ss.dp_append (a:=a)];omega
theorem Ss.ed_append{m:Nat} : ∀{a b:List S},Ss.ed m (a++b) ↔ Ss.ed m a/\Ss.ed m b
 | [],b=>by simp [Ss.ed]
 |x::a,b=>by simp [Ss.ed,Ss.ed_append (a:=a),and_assoc]
theorem Ss.cost_append: ∀{a b:List S},Ss.cost (a++b)=Ss.cost a+Ss.cost b
 | [],b=>by simp [Ss.cost]
 |x::a,b=>by simp [Ss.cost,Ss.cost_append (a:=a)];omega
def RN(h:Heap)(id r:Nat)(w:Int):Prop:=id<h.next/\∃io e,∃l:Y12,(∀x∈l,aR x)/\l.length=r/\h.get id= .cells [.vslice io e l.length 1 (l.map (IV.int .i64)),.int .i64 w]
theorem RN.push{h:Heap}{id r:Nat}{w:Int}{x:IObj}(g:RN h id r w):RN (h.push x) id r w:=by
 obtain⟨i,io,e,l,h2,j,p⟩:=g;exact⟨BM i,io,e,l,h2,j,by rw [aL i];exact p⟩
theorem RN.set{h:Heap}{id i r:Nat}{w:Int}{x:IObj}(g:RN h id r w)(z:i≠id):RN (h.set i x) id r w:=by
 obtain⟨j,io,e,l,h2,p,u⟩:=g;exact⟨j,io,e,l,h2,p,by rw [aG (fun e=>z e.symm)];exact u⟩
def GN(h:Heap)(id r:Nat)(w:Int)(h2:Heap):Prop:=RN h2 id r w/\HF id h h2
theorem GN.push{h h2:Heap}{id r:Nat}{w:Int}{x:IObj}(g:GN h id r w h2):GN h id r w (h2.push x):=⟨g.1.push,g.2.trans HF.push⟩
theorem GN.set{h h2:Heap}{id i r:Nat}{w:Int}{x:IObj}(g:GN h id r w h2)(hi:h.next<=i)(u:i≠id):GN h id r w (h2.set i x):=
 ⟨g.1.set u,g.2.1,fun j p l=>by rw [aG IM];exact g.2.2 j p l⟩
theorem GN.trans{h i h2:Heap}{id r j:Nat}{w l:Int}(g:GN h id r w i)(k:GN i id j l h2):GN h id j l h2:=⟨k.1,g.2.trans k.2⟩
def gL(f:Int)(d r g:Nat)(e:E):Prop:=e.wf f/\e.dp<=d/\g<=r/\e.cost<=4*(r-g)
def lH(f:Int)(d r g:Nat)(ks:List E):Prop:=Es.wf f ks/\Es.dp ks<=d+1/\g<=r/\Es.cost ks<=4*(r-g)
theorem lH.nil{f:Int}{d r:Nat} :lH f d r r []:=⟨trivial,by simp [Es.dp],AJ _,by simp [Es.cost]⟩
theorem Es.dp_append: ∀{a b:List E},Es.dp (a++b)=max (Es.dp a) (Es.dp b)
 | [],b=>by simp [Es.dp]
 |x::a,b=>by rw [CQ,Es.dp,Es.dp,Es.dp_append (a:=a)];omega
theorem lH.snoc{f:Int}{d r r1 g:Nat}{ks:List E}{e:E}(a:lH f d r r1 ks)(b:gL f d r1 g e):lH f d r g (ks++ [e]):=by
 obtain⟨i,l,p,u⟩:=a;obtain⟨j,z,A,D⟩:=b;refine⟨Es.wf_append.2 ⟨i,j,trivial⟩,?_,IM,?_⟩
 ·rw [Es.dp_append];simp only [Es.dp];omega
 ·rw [Es.cost_append];simp only [Es.cost];omega
theorem gL.node{f k n op:Int}{nm:Y11}{d r g:Nat}{ks:List E}(a:lH f d r g ks)(h:K0 f k n nm op ks.length):gL f (d+1) (r+1) g (.mk k n nm op ks):=by
 obtain⟨i,j,l,p⟩:=a;refine⟨⟨h,i⟩,j,IM,?_⟩;rw [E.cost];split<;>omega
theorem B6{l:List (Y11)}{o:Nat}{K:Y11->Prop}(h:o<l.length)(g: ∀s∈l,K s):bL (l.map IV.str) o K:=by
 unfold bL
 rw [BL,AA h];exact g _ (AG h)
theorem c2R{l:Y12}{o:Nat}{K:Int->Prop}(h:o<l.length)(g: ∀s∈l,K s):aI .i64 (l.map (IV.int .i64)) o K:=by
 unfold aI
 rw [BL,AA h];simpa using g _ (AG h)
def fM(f:Int)(d r g:Nat)(w i:Int)(l:List S):Prop:=Ss.wf f l/\Ss.cost l<=16*(r-g)/\Ss.cnt l<=r-g/\(i=w+Ss.whl l/\i<=10)/\Ss.dp d l<=4/\Ss.ed 5 l/\g<=r
def uT(f:Int)(d r g:Nat)(w i:Int)(s:S):Prop:=fM f d r g w i [s]
theorem fM.nil{f w:Int}{d r:Nat}(h:w<=10):fM f d r r w w []:=⟨trivial,by simp [Ss.cost],by simp [Ss.cnt],⟨by simp [Ss.whl],h⟩,by simp [Ss.dp],trivial,AJ _⟩
theorem fM.mono{f w i:Int}{d r r1 g:Nat}{l:List S}(a:fM f d r1 g w i l)(h:r1<=r):fM f d r g w i l:=by
 obtain⟨j,A,D,p,u,z,G⟩:=a;exact⟨j,IM,IM,p,u,z,IM⟩
theorem fM.snoc{f w i j:Int}{d r r1 g:Nat}{l:List S}{s:S}(a:fM f d r r1 w i l)(b:uT f d r1 g i j s):fM f d r g w j (l++ [s]):=by
 obtain⟨p,G,K,L,O,u,T⟩:=a;obtain⟨z,V,X,A,Y,D,Z⟩:=b;refine⟨Ss.wf_append.2 ⟨p,z⟩,?_,?_,⟨?_,A.2⟩,?_,Ss.ed_append.2 ⟨u,D⟩,IM⟩
 ·rw [Ss.cost_append];omega
 ·rw [Ss.cnt_append];omega
 ·rw [Ss.whl_append];omega
 ·rw [Ss.dp_append];omega
theorem uT.node{f k n w wa wb z:Int}{nm u:Y11}{d r r0 r1 l p:Nat}{a v:E}{g:List E}{j i:List S}(h:jX f k nm u n a v g j i)
  (hd:d<=4) (he:a.dp<=5/\v.dp<=5/\∀e∈g,e.dp<=5) (hr:r0+1<=r/\r1<=r0) (hc:a.cost+v.cost+Es.cost g<=4*(r0-r1))
  (ht:fM f (d+1) r1 l wa wb j) (hl:fM f (d+1) l p wb z i) (hw:wa=w+(if k=4 then 1 else 0)):uT f d r p w z (.mk k nm u n a v g j i):=by
 obtain⟨A,O,T,V,X,D,Y⟩:=ht;obtain⟨G,Z,b3,K,b5,L,b7⟩:=hl;refine⟨⟨⟨h,A,G⟩,trivial⟩,?_,?_,⟨?_,K.2⟩,?_,⟨⟨he,D,L⟩,trivial⟩,IM⟩
 ·simp only [Ss.cost,S.cost];omega
 ·simp only [Ss.cnt,S.cnt];omega
 ·simp only [Ss.whl,S.whl]
  by_cases q:k=4
  ·simp only [q,if_true]at hw⊢;omega
  ·simp only [q,if_false]at hw⊢;omega
 ·simp only [Ss.dp,S.dp];omega
theorem d0Y:e0.dp=0:=by simp [e0,E.dp,Es.dp]
theorem b4J:e0.cost=0:=by simp [e0,E.cost,Es.cost]
theorem gO{cs:Y14}{K:Y11->Prop}{b:Y11}(e:cs[i]?=some (.str b))(g:K b):bL cs i K:=by
 unfold bL;rw [e];exact g
theorem d0Z{cs:Y14}{K:Bool->Prop}{b:Bool}(e:cs[i]?=some (.bool b))(g:K b):kQ cs i K:=by
 unfold kQ;rw [e];exact g
theorem bY{k:IntKind}{cs:Y14}{K:Int->Prop}{n:Int}(e:cs[i]?=some (.int k n))(g:K n):aI k cs i K:=by
 unfold aI;rw [e];simpa using g
theorem eF{sz:Nat}{cs:Y14}{K:Y10->Nat->Nat->Y14->Prop}{i:Y10}{a n:Nat}{c:Y14}(e:cs[j]?=some (.vslice i a n sz c))(g:K i a n c):aX sz cs j K:=by
 unfold aX;rw [e];simpa using g
theorem d1A{a b:Prop}[Decidable a][Decidable b](h:a/\b):(decide a&&decide b)=true:=by
 rw [AF,decide_eq_true_eq,decide_eq_true_eq];exact h
theorem Yl{p:Prop}[Decidable p]{A B:Prop}(h:p)(a:A):aJ (decide p) A B:=aC (fun _=>a) (fun c=>absurd h (of_decide_eq_false c))
theorem lR{p:Prop}[Decidable p]{A B:Prop}(h: ¬p)(b:B):aJ (decide p) A B:=aC (fun c=>absurd (of_decide_eq_true c) h) (fun _=>b)
theorem dA{p:Prop}[Decidable p]{A B:Prop}(a:p->A)(b: ¬p->B):aJ (decide p) A B:=aC (fun c=>a (of_decide_eq_true c)) (fun c=>b (of_decide_eq_false c))
theorem bG{p q:Prop}[Decidable p][Decidable q]{A:Prop}(h:p/\q)(a:A):aD (decide p&&decide q) A:=aA (d1A h) a
theorem RN.wl{h:Heap}{id r:Nat}{w:Int}{e:Nat}{l:Y12}(g:id<h.next)(i: ∀x∈l,aR x)(j:l.length=r){x:Int}(p:x=w):RN (h.set id (.cells [.vslice N e l.length 1 (l.map (IV.int .i64)),.int .i64 x])) id r w:=
 ⟨g,N,e,l,i,j,by rw [aH,p]⟩
def Kc(g i:Int):Y14:=[.str [97],.int .i64 g,.str [98],.int .i64 i]
def fnC(g:List S)(j:E)(i:List S)(l:E):Y14:=
 [.str [102],.vslice none 1 2 1 [.str [120],.str [121]],.vslice none 1 2 1 [.str [105],.str [106]],.vslice none 0 g.length 17 (aY g)]++cE j++
 [.str [103],.vslice none 1 1 1 [.str [110]],.vslice none 1 1 1 [.str [105]],.vslice none 0 i.length 17 (aY i)]++cE l
structure GB(f:Int)(b:List S)(v:E):Prop where
 wf:Ss.wf f b
 cost:Ss.cost b+v.cost<=1000
 cnt:Ss.cnt b<=60
 whl:Ss.whl b<=10
 dp:Ss.dp 0 b<=4
 ed:Ss.ed 5 b
 vw:v.wf f
 vd:v.dp<=5
def PP(g i:Int)(j:List S)(p:E)(l:List S)(u:E):Prop:=(1<=g/\g<=4/\1<=i/\i<=4)/\GB 0 j p/\GB 1 l u
mutual
theorem S.dp_mono{d:Nat} : ∀s:S,s.dp d<=s.dp (d+1)
 | .mk _ _ _ _ _ _ _ th el=>by
  have:=Ss.dp_mono (d:=d+1) th;have:=Ss.dp_mono (d:=d+1) el;simp only [S.dp];omega
theorem Ss.dp_mono{d:Nat} : ∀l:List S,Ss.dp d l<=Ss.dp (d+1) l
 | []=>AJ _
 |s::r=>by
  have:=S.dp_mono (d:=d) s;have:=Ss.dp_mono (d:=d) r;simp only [Ss.dp];omega
end
theorem GB.mk0{f w A:Int}{r r1 z:Nat}{b:List S}{v:E}(p:fM f 0 r r1 w A b)(u:gL f 3 r1 z v)(X:r<=60)(Y:0<=w):GB f b v:=by
 obtain⟨g,D,G,K,i,j,L⟩:=p;obtain⟨l,O,T,V⟩:=u;exact⟨g,IM,IM,IM,i,j,l,IM⟩
theorem fM.dp0{f w g:Int}{r r1:Nat}{b:List S}(h:fM f 1 r r1 w g b):fM f 0 r r1 w g b:=by
 obtain⟨i,j,l,p,u,z,A⟩:=h;exact⟨i,j,l,p,BK (Ss.dp_mono _) u,z,A⟩
theorem PP.pure{g i:List S}{j l:E}(h:PP x y g j i l):aM [.agg [.vslice none 0 2 2 (Kc x y),.vslice none 0 2 9 (fnC g j i l)]]=true:=by
 simp only [aM,bI,Kc,fnC,bF,uS,bN,AT]
end Go.M10
end
section
namespace Go.M15
open Go.Pv
def qQ(op:Int):Bool:=decide (op=1\/ (4<=op/\op<=24) \/op=27\/op=28\/op=29)
def opk(op:Int):Y12:=
 if op=23\/op=27\/op=29 then [2,1]
 else if op=24 then [2]
 else if op=28 then [2,1,1]
 else if 4<=op/\op<=19 then [1,1]
 else if op=20\/op=21 then [1]
 else if op=22 then [1,1,1]else []
def pS(op:Int):Int:=if op=2 then 5 else if op=3 then 255 else if op=23\/op=28 then 3 else if op=27 then 1000016 else if op=30 then 7 else if op=31\/op=25 then 15 else-1
def dY(op n:Int):Bool:=decide (op=1\/ (op≠1/\pS op<0/\n=0) \/ (op≠1/\¬pS op<0/\0<=n/\n<=pS op/\(op≠27\/0<n)))
theorem Wx{op:Int}(h:op=1\/ (4<=op/\op<=24) \/op=27\/op=28\/op=29):((op=23\/op=28)/\pS op=3) \/ (op=27/\pS op=1000016) \/ (op≠23/\op≠28/\op≠27/\pS op= -1):=by
 unfold pS
 repeat' split
 all_goals omega
theorem T4{op:Int}(h:qQ op=true):((opk op).length:Int)=ar op:=by
 unfold qQ at h;rw [decide_eq_true_eq]at h;unfold opk ar
 repeat' split
 all_goals first|rfl| (exfalso;omega)
theorem c2T{op:Int}(h:qQ op=true){i:Nat}(hi:i< (opk op).length):pN op i=(opk op)[i]:=by
 have l:=T4 h;have j:(opk op).length<=3:=by unfold opk; (repeat' split)<;>simp
 unfold qQ at h;rw [decide_eq_true_eq]at h;have g:i=0\/i=1\/i=2:=IM
 revert hi
 unfold opk pN Ka
 rcases g with rfl|rfl|rfl
 all_goals
  repeat' split
  all_goals intro hi
  all_goals first|rfl| (exfalso;omega)| (simp at hi)| (exfalso;simp at hi;omega)
end Go.M15
namespace Go.Pv
theorem N7(n:Nat):fQ n [.int .i64 0]=(List.replicate n (0:Int)).map (IV.int .i64):=by
 induction n with
 |zero=>rfl
 |succ n ih=>simp [fQ,ih,GQ]
end Go.Pv
end
section
namespace Go.M15
open Go.Pv
end Go.M15
namespace Go.Pv
open Go.M15
theorem cO{sz:Nat}{cs:Y14}{A:Prop}{K:Nat->Nat->Nat->Y14->Prop}(e:cs[i]?=some .nilslice)(ha:A):bP sz cs i A K:=by
 unfold bP;rw [e];exact ha
theorem bZ{sz:Nat}{cs:Y14}{A:Prop}{K:Nat->Nat->Nat->Y14->Prop}{i:Nat}{a n:Nat}{c:Y14}(e:cs[j]?=some (.vslice (some i) a n sz c))(g:K i a n c):bP sz cs j A K:=by
 unfold bP;rw [e];simpa using g
theorem jS{sz:Nat}{cs:Y14}{A:Prop}{K:Nat->Nat->Nat->Prop}(e:cs[i]?=some .nilslice)(ha:A):cY sz cs i A K:=by
 unfold cY;rw [e];exact ha
theorem dE{sz:Nat}{cs:Y14}{A:Prop}{K:Nat->Nat->Nat->Prop}{i a n:Nat}(e:cs[j]?=some (.hslice i a n sz))(g:K i a n):cY sz cs j A K:=by
 unfold cY;rw [e];simpa using g
theorem bO{k:IntKind}{cs:Y14}{K:Int->Prop}{n:Int}(e:cs[i]?=some (.int k n))(g:K n):aI k cs i K:=by
 unfold aI;rw [e];simpa using g
end Go.Pv
namespace Go.M15
open Go.Pv
structure Nd where
 op:Int
 im:Int
 ks:Y12
 deriving DecidableEq,Inhabited
abbrev _root_.Y15:=List Nd
def okN(n:Nd):Prop:=aR n.op/\aR n.im/\∀k∈n.ks,aR k
def b8(n:Int):Y12:=[IntKind.u8.wrap (n.fdiv 1),IntKind.u8.wrap (n.fdiv 256),IntKind.u8.wrap (n.fdiv 65536),IntKind.u8.wrap (n.fdiv 16777216),IntKind.u8.wrap (n.fdiv 4294967296),
 IntKind.u8.wrap (n.fdiv 1099511627776),IntKind.u8.wrap (n.fdiv 281474976710656),IntKind.u8.wrap (n.fdiv 72057594037927936)]
def u64(n:Int):Int:=IntKind.u64.wrap n
theorem u8w(n:Int):IntKind.u8.wrap n=n%256:=by
 simp [IntKind.wrap,IntKind.signed,IntKind.bits]
theorem c2U(n:Int):IntKind.u64.wrap n=n%18446744073709551616:=by
 simp [IntKind.wrap,IntKind.signed,IntKind.bits]
theorem b9Z(n:Int): ∀x∈b8 n,0<=x/\x<256:=by
 intro x g;unfold b8 at g;simp only [u8w,BQ,DF,or_false]at g;omega
theorem a0G{n m:Int}(hn:0<=n/\n<18446744073709551616)(Z:0<=m/\m<18446744073709551616)(h:b8 n=b8 m):n=m:=by
 unfold b8 at h;simp only [u8w,BS,and_true]at h;obtain⟨h0,g,h2,i,j,l,p,u⟩:=h;simp only [DA _ (show(0:Int)<=1 by decide),DA _ (show(0:Int)<=256 by decide),DA _ (show(0:Int)<=65536 by decide),DA _ (show(0:Int)<=16777216 by decide),
  DA _ (show(0:Int)<=4294967296 by decide),DA _ (show(0:Int)<=1099511627776 by decide),DA _ (show(0:Int)<=281474976710656 by decide),DA _ (show(0:Int)<=72057594037927936 by decide),Int.ediv_one]at h0 g h2 i j l p u
 have e: ∀x:Int,x/65536=x/256/256/\x/16777216=x/65536/256/\x/4294967296=x/16777216/256/\x/1099511627776=x/4294967296/256/\x/281474976710656=x/1099511627776/256/\x/72057594037927936=x/281474976710656/256:=fun x=>by
  refine⟨?_,?_,?_,?_,?_,?_⟩<;>omega
 obtain⟨z,A,D,G,K,L⟩:=e n;obtain⟨O,T,V,c4,X,Y⟩:=e m;have k7:n/72057594037927936=m/72057594037927936:=IM;have k6:n/281474976710656=m/281474976710656:=IM;have k5:n/1099511627776=m/1099511627776:=IM;have k4:n/4294967296=m/4294967296:=IM;have k3:n/16777216=m/16777216:=IM;have k2:n/65536=m/65536:=IM;have k1:n/256=m/256:=IM;omega
theorem Qv(n:Int):0<=u64 n/\u64 n<18446744073709551616:=by
 unfold u64
 rw [c2U];omega
theorem Qw{n m:Int}(i:aR n)(g:aR m)(h:u64 n=u64 m):n=m:=by
 unfold u64 at h;rw [c2U,c2U]at h;unfold aR at i g;omega
theorem Kd(n:Int):(b8 n).length=8:=rfl
theorem Dp: ∀{a b:Y12},(∀k∈a,aR k)->(∀k∈b,aR k)->a.flatMap (fun k=>b8 (u64 k))=b.flatMap (fun k=>b8 (u64 k))->a=b
 | [],[],_,_,_=>rfl
 | [],y::b,_,_,h=>by simp [b8]at h
 |x::a,[],_,_,h=>by simp [b8]at h
 |x::a,y::b,ha,hb,h=>by
  rw [CU,CU]at h;obtain⟨i,h2⟩:=List.append_inj h (by rw [Kd,Kd]);rw [Qw (ha x BJ) (hb y BJ) (a0G (Qv _) (Qv _) i),Dp (fun k g=>ha k (BX _ g)) (fun k g=>hb k (BX _ g)) h2]
theorem a0H: ∀{a b:Y12},(∀x∈a,0<=x/\x<256)->(∀x∈b,0<=x/\x<256)->a.map (fun x=>UInt8.ofNat x.toNat)=b.map (fun x=>UInt8.ofNat x.toNat)->a=b
 | [],[],_,_,_=>rfl
 | [],_::_,_,_,h=>by simp at h
 |_::_,[],_,_,h=>by simp at h
 |x::a,y::b,ha,hb,h=>by
  simp only [CF,BS]at h;obtain⟨i,h2⟩:=h;have j:=ha x BJ;have l:=hb y BJ;have e:=congrArg UInt8.toNat i;rw [UInt8.toNat_ofNat_of_lt' (by show x.toNat<256;omega),UInt8.toNat_ofNat_of_lt' (by show y.toNat<256;omega)]at e;rw [show x=y by omega,a0H (fun k g=>ha k (BX _ g)) (fun k g=>hb k (BX _ g)) h2]
theorem mC: ∀l:Y12,fW (l.map (IV.int .u8))=some (l.map fun x=>UInt8.ofNat x.toNat)
 | []=>rfl
 |x::r=>by simp [fW,mC r]
def iY(n:Nd):Y15->Nat->Y10
 | [],_=>none
 |x::r,i=>if n=x then some i else iY n r (i+1)
def pT(k:Y11):List (Y11×Int)->Option Int
 | []=>none
 | (x,v)::r=>if k==x then some v else pT k r
def cEm(g:List (Y11×Int)):List (IV×IV):=g.map fun p=>(.str p.1,.int .i64 p.2)
theorem uU(k:Y11): ∀es,eV .string (.str k) (cEm es)=some ((pT k es).map (IV.int .i64))
 | []=>rfl
 | (x,v)::r=>by
  have g:=uU k r;unfold cEm at g⊢;simp only [CF,eV,dR,pT]
  cases h:(k==x)
  ·simpa using g
  ·simp
theorem B7(k:Y11)(v:Int): ∀es,pT k es=none->pJ .string (.str k) (.int .i64 v) (cEm es)=some (cEm (es++ [(k,v)]))
 | [],_=>rfl
 | (x,w)::r,h=>by
  unfold pT at h;split at h
  ·cases h
  ·rename_i g;have i:=B7 k v r h;unfold cEm at i⊢;simp only [CF,pJ,dR,CQ];rw [GA]at g;rw [g];simp only [i,DN]
theorem B8(k:Y11): ∀(a b:List (Y11×Int)),pT k (a++b)=(pT k a).or (pT k b)
 | [],b=>rfl
 | (x,v)::a,b=>by
  simp only [CQ,pT];split
  ·rfl
  ·exact B8 k a b
def cH(l:Y15)(n:Nd):Y15×Int:=match iY n l 0 with
 |some i=>(l,i)
 |none=>(l++ [n],l.length)
end Go.M15
namespace Go.Pv
open Go.M15
def cN(n:Nd):Y14:=[.int .i64 n.op,.int .i64 n.im,.vslice none 0 n.ks.length 1 (n.ks.map (IV.int .i64))]
theorem cI: ∀{l:Y15},aM (l.flatMap cN)=true
 | []=>rfl
 |x::r=>by
  rw [CU,bF,cI,AT];simp only [cN,aM,bI,bT,AT]
theorem Qx{l:Y15}{i j:Nat}(h:i<l.length)(g:j<3):(l.flatMap cN)[i*3+j]?=(cN l[i])[j]?:=by
 induction l generalizing i with
 |nil=>simp at h
 |cons x r ih=>
  cases i with
  |zero=>
   rw [CU,EX,BT,BD (by exact g)];rfl
  |succ i=>
   rw [CU,BU (by show 3<=_;omega),show(i+1)*3+j- (cN x).length=i*3+j by show(i+1)*3+j-3=_;omega];exact ih (by simpa using h)
theorem oR{l:Y15}{i o:Nat}{K:Int->Int->Y10->Nat->Nat->Y14->Prop}(h:i<l.length)(A:o=i*3)(z:K l[i].op l[i].im none 0 l[i].ks.length (l[i].ks.map (IV.int .i64))):
  aI .i64 (l.flatMap cN) o fun a=>aI .i64 (l.flatMap cN) (o+1) fun b=>aX 1 (l.flatMap cN) (o+1+1) fun p q r s=>K a b p q r s:=by
 subst A;have e0:=Qx (j:=0) h IM;have g:=Qx (j:=1) h IM;have u:=Qx (j:=2) h IM;unfold aI aX
 simp only [FL]at e0;simp only [FD,Nat.reduceAdd,e0,g,u];exact z
end Go.Pv
namespace Go.Pv
theorem wT{cs:Y14}{g id:Nat}{K:Nat->Prop}(e:cs[g]?=some (.map id))(i:K id):J7 cs g K:=by
 unfold J7;rw [e];exact i
theorem oS{sz:Nat}{cs:Y14}{K:Y10->Nat->Nat->Y14->Prop}{i:Y10}{a n:Nat}{c:Y14}(e:cs[j]?=some (.vslice i a n sz c))(g:K i a n c):aX sz cs j K:=by
 unfold aX;rw [e];simpa using g
theorem rU{cs:Y14}{b:Y11}{K:Y11->Prop}(e:fW cs=some b)(g:K b):Da cs K:=by
 unfold Da;rw [e];exact g
theorem B9{h:Heap}{id:Nat}{d:TypeDesc}{g v:IV}{i:List (IV×IV)}{K:Y14->Prop}{A:Prop}(e:h.get id= .map i)(f:eV d g i=some (some v))(j:K [v]):qM h id d g K A:=by
 unfold qM;rw [e];simp only [f];exact j
theorem C0{h:Heap}{id:Nat}{d:TypeDesc}{g:List (IV×IV)}{K:Y14->Prop}{A:Prop}(e:h.get id= .map g)(f:eV d p g=some none)(i:A):qM h id d p K A:=by
 unfold qM;rw [e];simp only [f];exact i
theorem oT{h:Heap}{id:Nat}{d:TypeDesc}{g v:IV}{i es':List (IV×IV)}{K:List (IV×IV)->Prop}(e:h.get id= .map i)(f:pJ d g v i=some es')(j:K es'):yG h id d g v K:=by
 unfold yG;rw [e];simp only [f];exact j
end Go.Pv
namespace Go.M15
open Go.Pv
def dW(op im:Int)(k:Y12):Int:=
 if jW op=false\/ (k.length:Int)≠ar op\/dY op im=false then 0
 else if op=3 then(if im%16=0 then 2 else 1)
 else if op=26 then 2
 else if op=22 then(if k.getD 0 0≠1\/k.getD 1 0≠k.getD 2 0\/k.getD 1 0=3 then 0 else k.getD 1 0)
 else if op=23 then(if k=[2,1]then 1 else 0)
 else if op=24 then(if k=[2]then 1 else 0)
 else if op=27\/op=29 then(if k=[2,1]then 2 else 0)
 else if op=28 then(if k=[2,1,1]then 2 else 0)
 else if k.all (fun x=>decide (x=1))=true then 1 else 0
def iG(g:Y12)(q:Int):Bool:=decide (0<=q) && (decide (q<g.length) &&decide (g.getD q.toNat 0≠0))
def N8(g:Y12)(n:Nd):Int:=if n.ks.all (iG g)=true then dW n.op n.im (n.ks.map fun q=>g.getD q.toNat 0)else 0
def gD:Y12->Y15->Y12
 |out,[]=>out
 |out,n::r=>gD (out++ [N8 out n]) r
def bU(l:Y15):Y12:=gD [] l
theorem yL(n:Nd): ∀(l:Y15)(g:Y12),gD g (l++ [n])=gD g l++ [N8 (gD g l) n]
 | [],g=>rfl
 |x::l,g=>by
  rw [CQ,gD,gD,yL n l]
theorem Dq(l:Y15)(n:Nd):bU (l++ [n])=bU l++ [N8 (bU l) n]:=yL n l []
theorem C1: ∀(l:Y15)(g:Y12),(gD g l).length=g.length+l.length
 | [],g=>rfl
 |x::l,g=>by
  rw [gD,C1 l];simp only [AH,AK,AY];omega
theorem C2(l:Y15):(bU l).length=l.length:=by unfold bU;rw [C1];simp
theorem C3: ∀(l:Y15)(g:Y12),g<+:gD g l
 | [],g=>DW _
 |x::l,g=>(EJ _ _).trans (C3 l _)
theorem C4: ∀(l r:Y15)(g:Y12),gD g (l++r)=gD (gD g l) r
 | [],r,g=>rfl
 |x::l,r,g=>by rw [CQ,gD,gD,C4 l r]
theorem Ke{l y:Y15}(h:l<+:y):bU l<+:bU y:=by
 obtain⟨r,rfl⟩:=h;unfold bU
 rw [C4];exact C3 _ _
theorem nL{a b:Y12}(h:a<+:b){i:Nat}(hi:i<a.length):b.getD i 0=a.getD i 0:=by
 obtain⟨r,rfl⟩:=h;simp only [AN,BD hi]
def SO(l:Y15)(i id:Nat)(h:Heap):Prop:=(0<i/\i<=l.length)/\h.get id= .tip i/\id<h.next
def SK(k:Y12)(id g:Nat)(h:Heap):Prop:=0<k.length/\h.get g= .tip k.length/\g<h.next/\g≠id
def dS(l:Y15)(i j:Nat):Nat:=match l[i]? with
 |some n=>n.ks.length-j
 |none=>0
theorem eZ{l:Y15}{i j:Nat}(h:i<l.length):dS l i j=l[i].ks.length-j:=by
 unfold dS
 rw [AA h]
theorem jD{q:Int}(h:q<0):iG K q=false:=by
 unfold iG
 rw [decide_eq_false IM,EV]
theorem jE{q:Int}(h:(K.length:Int)<=q):iG K q=false:=by
 unfold iG
 rw [decide_eq_false (p:=q<_) IM,EV,HY]
theorem jF{q:Int}(h:q.toNat<K.length)(g:K[q.toNat]=0):iG K q=false:=by
 have e:K.getD q.toNat 0=0:=by rw [AN,AA h];exact g
 unfold iG
 rw [e];simp
theorem iH{q:Int}(h0:0<=q)(h:q.toNat<K.length)(g:K[q.toNat]≠0):iG K q=true/\K.getD q.toNat 0=K[q.toNat]:=by
 have e:K.getD q.toNat 0=K[q.toNat]:=by rw [AN,AA h];rfl
 unfold iG
 rw [e];refine⟨?_,rfl⟩;simp only [AF,decide_eq_true_eq];exact⟨h0,IM,g⟩
theorem N9{op im:Int}{k:Y12}(h:op≠25/\op≠30/\op≠31):jW op=true->(k.length:Int)=ar op->dY op im=true->dW op im k=(if op=3 then(if im%16=0 then 2 else 1)else if op=26 then 2 else if op=22 then(if k.getD 0 0≠1\/k.getD 1 0≠k.getD 2 0\/k.getD 1 0=3 then 0 else k.getD 1 0)
  else if op=23 then(if k=[2,1]then 1 else 0)else if op=24 then(if k=[2]then 1 else 0)else if op=27\/op=29 then(if k=[2,1]then 2 else 0)else if op=28 then(if k=[2,1,1]then 2 else 0)else if k.all (fun x=>decide (x=1))=true then 1 else 0):=by
 intro g h2 i;unfold dW
 rw [if_neg (by simp [g,h2,i])]
def Qy(op:Int):Prop:=op=1\/ (4<=op/\op<=22)
def WFN(l:Y15):Prop:= ∀s∈bU l,s≠0
theorem Wy{op im:Int}{k:Y12}(z:Qy op)(u:(k.length:Int)=ar op)(hi:dY op im=true)(g: ∀x∈k,x=1):dW op im k=1:=by
 unfold Qy at z;have ha:jW op=true:=by unfold jW;rw [decide_eq_true_eq];omega
 unfold dW
 rw [if_neg (by simp [ha,u,hi]),if_neg IM,if_neg IM]
 by_cases h22:op=22
 ·subst h22;have p:k.length=3:=by
   have:ar 22=3:=IN;omega
  match k,p with
  | [a,b,c],_=>
   have i:=g a IP;have j:=g b IP;have l:=g c IP;subst i j l;rfl
 ·rw [if_neg h22,if_neg IM,if_neg IM,if_neg IM,if_neg IM,if_pos];rw [CA];intro x A;simp [g x A]
end Go.M15
end
section
namespace Go.M29
def lS(n:Nat):Y11:=if n<10 then [UInt8.ofNat (48+n)]else lS (n/10)++ [UInt8.ofNat (48+n%10)]
termination_by n
decreasing_by omega
theorem uV{n:Nat}(h:n<10):lS n=[UInt8.ofNat (48+n)]:=by rw [lS,if_pos h]
theorem T5{n:Nat}(h: ¬n<10):lS n=lS (n/10)++ [UInt8.ofNat (48+n%10)]:=by rw [lS,if_neg h]
def jM(n:Int):Y11:=if n<0 then 45::lS n.natAbs else lS n.natAbs
def val(l:Y11):Nat:=l.foldl (fun a b=>a*10+(b.toNat-48)) 0
theorem Dr(l:Y11)(b:UInt8):val (l++ [b])=val l*10+(b.toNat-48):=by
 unfold val
 rw [List.foldl_append];rfl
theorem C5(k:Nat): ∀n:Nat,n<10^ (k+1)->(lS n).length<=k+1:=by
 induction k with
 |zero=>intro n h;rw [uV (by simpa using h)];simp
 |succ k ih=>
  intro n h
  by_cases h2:n<10
  ·rw [uV h2];simp
  ·rw [T5 h2,AH];have:n/10<10^ (k+1):=by
    rw [EY IM];rw [Nat.pow_succ]at h;exact h
   have:=ih _ this;simp;omega
theorem Kf{n:Int}(h:0<=n):jM n=lS n.natAbs:=if_neg IM
theorem T6{n:Int}(h:n<0):jM n=45::lS n.natAbs:=if_pos h
theorem iS{n:Int}(h: -9223372036854775808<=n/\n<=9223372036854775807):(jM n).length<=20:=by
 have:=C5 18 n.natAbs IM
 by_cases hn:n<0
 ·rw [T6 hn,AK];omega
 ·rw [Kf IM];omega
end Go.M29
end
section
namespace Go.M10
def wU:List (Y11):=[
 [97,100,100],
 [115,117,98],
 [109,117,108],
 [100,105,118],
 [114,101,109],
 [97,110,100],
 [111,114],
 [120,111,114],
 [115,104,108],
 [115,104,114],
 [115,97,114],
 [101,113],
 [110,101],
 [108,116],
 [108,101],
 [108,116,117],
 [110,101,103],
 [110,111,116],
 [115,101,108],
 [108,111,97,100],
 [114,101,116],
 [102,105,110],
 [115,116,97,114,116],
 [110,101,101,100],
 [115,116,111,114,101],
 [111,117,116],
 [99,97,108,108],
 [108,111,111,112]]
def tok(a:Int):Bool:=decide (4<=a) &&decide (a<=31)
def Cb(a:Int):Y11:=if 4<=a/\a<=31 then wU.getD (a-4).toNat []else []
theorem uW{a:Int} :tok a=true ↔ 4<=a/\a<=31:=by simp [tok]
theorem a0J{a:Int}(h:tok a=false):Cb a=[]:=by
 unfold Cb
 rw [if_neg];intro q;rw [uW.2 q]at h
 cases h
end Go.M10
end
section
namespace Go.M10
open Go.M15 Go.M29
def nM(op:Int):Bool:=decide (op=23\/op=25\/op=27\/op=28\/op=30\/op=31)
def lf(op:Int):Bool:=decide (op=1\/op=2\/op=3\/op=26)
def lfT(op im:Int):Y11:=if op=1 then jM im else if op=2 then 112::jM im else if op=3 then 118::(jM (im.tdiv 16)++46::jM (im.tmod 16))else [115,116,97,114,116]
def yZ(op im:Int):Y11:=Cb op++(if nM op=true then 46::jM im else [])
def sN(g:List (Y11))(ks:Y12):Y11:=ks.flatMap fun k=>32::g.getD k.toNat []
def ndT(g:List (Y11))(n:Nd):Y11:=if lf n.op=true then lfT n.op n.im else 40::(yZ n.op n.im++(sN g n.ks++ [41]))
def Kg:List (Y11)->Y15->List (Y11)
 |out,[]=>out
 |out,n::r=>Kg (out++ [ndT out n]) r
def sC(l:Y15):List (Y11):=Kg [] l
def pU(l:Y15)(i:Nat):Y11:=(sC l).getD i []
def wV(l:Y15):Prop:= ∀(i:Nat)(n:Nd),l[i]?=some n-> ∀k∈n.ks,0<=k/\k<i
theorem Ds(n:Nd): ∀(l:Y15)(g:List (Y11)),Kg g (l++ [n])=Kg g l++ [ndT (Kg g l) n]
 | [],g=>rfl
 |x::l,g=>by rw [CQ,Kg,Kg,Ds n l]
theorem a0L(l:Y15)(n:Nd):sC (l++ [n])=sC l++ [ndT (sC l) n]:=Ds n l []
theorem Qz: ∀(l:Y15)(g:List (Y11)),(Kg g l).length=g.length+l.length
 | [],g=>rfl
 |x::l,g=>by
  rw [Kg,Qz l];simp only [AH,AK,AY];omega
theorem T7(l:Y15):(sC l).length=l.length:=by unfold sC;rw [Qz];simp
theorem Ra: ∀(l:Y15)(g:List (Y11)),g<+:Kg g l
 | [],g=>DW _
 |x::l,g=>(EJ _ _).trans (Ra l _)
theorem Rb: ∀(l r:Y15)(g:List (Y11)),Kg g (l++r)=Kg (Kg g l) r
 | [],r,g=>rfl
 |x::l,r,g=>by rw [CQ,Kg,Kg,Rb l r]
theorem b4K{l y:Y15}(h:l<+:y):sC l<+:sC y:=by
 obtain⟨r,rfl⟩:=h;unfold sC
 rw [Rb];exact Ra _ _
theorem Rc{l y:Y15}(h:l<+:y){i:Nat}(hi:i<l.length):pU y i=pU l i:=by
 obtain⟨r,g⟩:=b4K h;unfold pU
 rw [<-g,AN,AN,BD (by rw [T7];exact hi)]
theorem O0{a b:List (Y11)} : ∀{ks:Y12},(∀k∈ks,a.getD k.toNat []=b.getD k.toNat [])->sN a ks=sN b ks
 | [],_=>rfl
 |k::r,h=>by
  show _::_++sN a r=_::_++sN b r;rw [h k BJ,O0 fun q g=>h q (BX _ g)]
def wd(c:UInt8):Prop:=c≠32/\c≠40/\c≠41
theorem a0M{op:Int}(h:lf op=true):op=1\/op=2\/op=3\/op=26:=of_decide_eq_true h
end Go.M10
end
section
namespace Go.M15
open Go.Pv
theorem Wz{op im:Int}(g:qQ op=true)(hi:dY op im=true):dW op im (opk op)=Ka op:=by
 have i:=T4 g;unfold qQ at g;rw [decide_eq_true_eq]at g;have ha:jW op=true:=by unfold jW;rw [decide_eq_true_eq];omega
 unfold dW
 rw [if_neg (by simp [ha,i,hi]),if_neg IM,if_neg IM];have:op=1\/op=4\/op=5\/op=6\/op=7\/op=8\/op=9\/op=10\/op=11\/op=12\/op=13\/op=14\/op=15\/op=16\/op=17\/op=18\/op=19\/op=20\/op=21\/op=22\/op=23\/op=24\/op=27\/op=28\/op=29:=IM;clear i g ha hi;rcases this with h|h|h|h|h|h|h|h|h|h|h|h|h|h|h|h|h|h|h|h|h|h|h|h|h<;>subst h<;>rfl
def O1:Y15:=[⟨2,0,[]⟩,⟨2,1,[]⟩,⟨26,0,[]⟩]
def NW(i:Nat)(x:Y15):Prop:=(3<=x.length/\x.length<=3+i)/\(∀n∈x,okN n/\n.ks.length<=3/\(n.op≠25/\n.op≠30/\n.op≠31))/\WFN x/\(O1<+:x/\x.Nodup/\∀n∈x,n.op≠3)
def OI(op im:Int):Prop:=qQ op=true/\aR im/\(op=1\/im=0)
def KS(x:Y15)(op:Int)(ks:Y12):Prop:=(ks.length:Int)<=ar op/\∀(i:Nat)(k:Int),ks[i]?=some k->0<=k/\k<x.length/\(bU x).getD k.toNat 0=pN op i
def FN(x:Y15)(op im:Int)(ks:Y12):Prop:=qQ op=true/\dY op im=true/\aR im/\KS x op ks/\(ks.length:Int)=ar op
theorem NW.init:NW 0 O1:=by
 refine⟨IN,?_,?_,DW _,IN,IN⟩
 ·intro n g;simp only [O1,BQ,DF,or_false]at g;rcases g with rfl|rfl|rfl<;>refine⟨⟨?_,?_,?_⟩,?_,?_⟩<;>simp [aR]
 ·have:bU O1=[1,1,2]:=rfl;intro s hs;rw [this]at hs;simp at hs;omega
theorem NW.mono{i j:Nat}{x:Y15}(h:NW i x)(g:i<=j):NW j x:=⟨⟨h.1.1,by have:=h.1.2;omega⟩,h.2⟩
theorem d1C(op:Int): -1<=ar op/\ar op<=3:=by unfold ar;repeat' split<;>omega
theorem Kh{op:Int}(h:qQ op=true):1<=op/\op<=29/\op≠25/\0<=ar op:=by
 have:=T4 h;unfold qQ at h;rw [decide_eq_true_eq]at h;omega
theorem NW.app{i:Nat}{x:Y15}{op im:Int}{ks:Y12}(h:NW i x)(hx:x.length<=1000000)(Y:(⟨op,im,ks⟩:Nd) ∉x)(f:FN x op im ks):NW (i+1) (x++ [⟨op,im,ks⟩]):=by
 obtain⟨h1,h2,T,z⟩:=h;obtain⟨l,L,O,⟨_,p⟩,f5⟩:=f;have A:=Kh l;have V:=d1C op;have G:=T4 l;refine⟨by simp only [AH,AK,AY];omega,?_,?_,z.1.trans (EJ _ _),List.nodup_append.2 ⟨z.2.1,IP,fun a ha b A e=>Y (by rw [BO]at A;rw [<-A,<-e];exact ha)⟩,fun n g=>by
  rcases CB.1 g with g|g
  ·exact z.2.2 n g
  ·rw [BO.1 g];show op≠3;unfold qQ at l;rw [decide_eq_true_eq]at l;omega⟩
 ·intro n g;rcases CB.1 g with g|g
  ·exact h2 n g
  ·rw [BO.1 g];refine⟨⟨by show aR op;unfold aR;omega,O,fun k X=>?_⟩,by show ks.length<=3;omega,by show op≠25/\op≠30/\op≠31;omega⟩;obtain⟨j,D,rfl⟩:=CT.1 X;have:=p j _ (AA D);unfold aR
   omega
 ·intro s hs;rw [Dq]at hs;rcases CB.1 hs with hs|hs
  ·exact T s hs
  ·rw [BO.1 hs];unfold N8
   rw [if_pos]
   ·have e:(ks.map fun q=>(bU x).getD q.toNat 0)=opk op:=by
     refine DL fun j=>?_
     rcases BC j ks.length with q|q
     ·have K:j< (opk op).length:=IM;have:=p j _ (AA q);rw [BL,AA q,AA K,<-c2T l K,<-this.2.2];rfl
     ·rw [BG (by simpa using q),BG IM]
    show dW op im _≠0;rw [e,Wz l L];unfold Ka
    split<;>decide
   ·rw [CA];intro q Z;obtain⟨j,D,rfl⟩:=CT.1 Z;have:=p j _ (AA D);have u:pN op j≠0:=by unfold pN;split<;>decide
    unfold iG
    simp only [AF,decide_eq_true_eq];rw [C2];exact⟨this.1,this.2.1,by rw [this.2.2];exact u⟩
theorem NW.has{i:Nat}{x:Y15}(h:NW i x)(op k:Int):pN op k∈bU x:=by
 obtain⟨r,g⟩:=Ke h.2.2.2.1;have:bU O1=[1,1,2]:=rfl;rw [<-g,this];unfold pN
 split<;>simp
theorem NW.sorts{i:Nat}{x:Y15}(h:NW i x): ∀n∈x,n.ks.length<=1000000/\n.op≠25/\n.op≠30/\n.op≠31:=fun n g=>by
 have:=h.2.1 n g;exact⟨IM,this.2.2⟩
theorem KS.nil{x:Y15}{op:Int}(h:qQ op=true):KS x op []:=⟨(Kh h).2.2.2,fun i k h=>by simp at h⟩
theorem KS.snoc{x:Y15}{op:Int}{ks:Y12}{q:Int}(h:KS x op ks)(l:(ks.length:Int)<ar op)(j:0<=q/\q<x.length/\(bU x).getD q.toNat 0=pN op ks.length):KS x op (ks++ [q]):=by
 refine⟨by simp only [AH,AK,AY];omega,fun i k hi=>?_⟩;rcases BC i ks.length with p|p
 ·rw [BD p]at hi;exact h.2 i k hi
 ·rw [BU p]at hi;rcases BC (i-ks.length) 1 with g|g
  ·obtain rfl:i=ks.length:=IM;simp at hi;subst hi;exact j
  ·rw [BG (by simpa using g)]at hi
   cases hi
def OH(x:Y15)(id:Nat)(g:Heap):Prop:=g.get id= .tip (x.length*3)/\id<g.next
def KH(ks:Y12)(id:Nat)(g:Heap):Prop:=0<ks.length/\g.get id= .tip ks.length/\id<g.next
theorem OH.push{x:Y15}{id:Nat}{g:Heap}{y:IObj}(h:OH x id g):OH x id (g.push y):=⟨by rw [aL h.2];exact h.1,BM h.2⟩
theorem OH.hf{x:Y15}{id rd:Nat}{g i:Heap}(h:OH x id g)(hf:HF rd g i)(j:id≠rd):OH x id i:=⟨by rw [hf.2 id h.2 j];exact h.1,AI h.2 hf.1⟩
theorem KH.hf{x:Y12}{id rd:Nat}{g i:Heap}(h:KH x id g)(hf:HF rd g i)(j:id≠rd):KH x id i:=⟨h.1,by rw [hf.2 id h.2.2 j];exact h.2.1,AI h.2.2 hf.1⟩
theorem OI.fn{x:Y15}{op im g:Int}{ks:Y12}(h:OI op im)(j:KS x op ks)(l:(ks.length:Int)=ar op)(hi:(op≠23/\op≠27/\op≠28/\g=im) \/ ((op=23\/op=28)/\0<=g/\g<=1) \/ (op=27/\1<=g/\g<=2)):FN x op g ks:=by
 obtain⟨i,h2,p⟩:=h;have u:=Kh i;refine⟨i,?_,?_,j,l⟩
 ·unfold qQ at i;rw [decide_eq_true_eq]at i;have z:=Wx i;unfold dY
  rw [decide_eq_true_eq];omega
 ·unfold aR at h2⊢;omega
structure ND where
 i:Nat
 x:Y15
 io:Y10
 e:Nat
 op:Int
 im:Int
 ks:Y12
 kv:IV
 rd:Nat
 g:Heap
def OV(x:ND):Prop:=NW x.i x.x/\((x.io=none/\x.e=1) \/ ∃id,x.io=some id/\x.e=x.x.length*3/\OH x.x id x.g)
def OR(x:ND):Prop:=OV x/\RD x.g x.rd/\∀id,x.io=some id->id≠x.rd
def KV(x:ND):Prop:=KS x.x x.op x.ks/\((x.kv= .nilslice/\x.ks=[]) \/ ∃id,x.kv= .vslice (some id) x.ks.length x.ks.length 1 (x.ks.map (IV.int .i64))/\KH x.ks id x.g/\id≠x.rd/\∀j,x.io=some j->j≠id)
theorem RD.hf{h h2:Heap}{id j:Nat}(r:RD h id)(hf:HF j h h2)(u:id≠j):RD h2 id:=by
 obtain⟨g,io,e,z,l,i,p⟩:=r;exact⟨AI g hf.1,io,e,z,l,i,by rw [hf.2 id g u];exact p⟩
theorem lI{h:Heap}{s:IV}{ks:Y12}{q:Int}{K:Nat->Nat->Nat->Y14->Heap->Prop}
  (hs:(s= .nilslice/\ks=[]) \/ ∃id,s= .vslice (some id) ks.length ks.length 1 (ks.map (IV.int .i64))/\KH ks id h) (hl:ks.length<=1000000)
  (hk: ∀id h2,KH (ks++ [q]) id h2->HF id h h2->(h.next<=id\/s= .vslice (some id) ks.length ks.length 1 (ks.map (IV.int .i64)))->K id (ks++ [q]).length (ks++ [q]).length ((ks++ [q]).map (IV.int .i64)) h2):
  nH h 1 8 s 1 [.int .i64 q] K:=by
 rcases hs with⟨rfl,rfl⟩| ⟨id,rfl,j,g,i⟩
 ·exact⟨IN,hk h.next (h.push (.tip 1)) ⟨Nat.one_pos,aU,AQ _⟩ HF.push (.inl (AJ _))⟩
 ·have:=hk id (h.set id (.tip (ks.length+1))) ⟨IP,by rw [aH];simp,i⟩ HF.set (.inr rfl);refine⟨⟨rfl,IM,g⟩,?_⟩;simpa using this
theorem Re{g:Heap}{e:Nat}{x:Y15}{n:Nd}{K:Nat->Nat->Nat->Y14->Heap->Prop}
  (hs:(N=none/\e=1) \/ ∃id,N=some id/\e=x.length*3/\OH x id g) (hl:x.length<=1000000)
  (hk: ∀id h2,OH (x++ [n]) id h2->K id ((x++ [n]).length*3) (x++ [n]).length ((x++ [n]).flatMap cN) h2):
  nH g 3 40 (.vslice N e x.length 3 (x.flatMap cN)) 1 (cN n) K:=by
 rcases hs with⟨rfl,rfl⟩| ⟨id,rfl,rfl,i,j⟩
 ·refine⟨⟨rfl,IM⟩,?_⟩;have:=hk g.next (g.push (.tip ((x.length+1)*3))) ⟨by rw [aU];simp,AQ _⟩;simpa using this
 ·refine⟨⟨rfl,IM,i⟩,?_⟩;have:=hk id (g.set id (.tip (x.length*3+3))) ⟨by rw [aH];simp [DV],j⟩;simpa [DV]using this
theorem OR.mk1{x:ND}(h:OV x)(op im a b c:Int):OR ⟨x.i,x.x,x.io,x.e,op,im,[],.nilslice,x.g.next,x.g.push (.cells [.vslice none 1 3 1 [.int .i64 (IntKind.i64.wrap a),.int .i64 (IntKind.i64.wrap b),.int .i64 (IntKind.i64.wrap c)],.int .i64 0])⟩:=by
 obtain⟨A,h2⟩:=h;refine⟨⟨A,?_⟩,⟨AQ _,none,1,0,[IntKind.i64.wrap a,IntKind.i64.wrap b,IntKind.i64.wrap c],?_,aU⟩,?_⟩
 ·rcases h2 with h2| ⟨id,l,z,p⟩
  ·exact .inl h2
  ·exact .inr ⟨id,l,z,p.push⟩
 ·intro y u;simp only [BQ,DF,or_false]at u;rcases u with rfl|rfl|rfl<;>exact c2Q _
 ·intro id j;rcases h2 with h2| ⟨D,l,z,p⟩
  ·rw [show x.io=none from h2.1]at j
   cases j
  ·have j:x.io=some id:=j;rw [l]at j
   cases j
   exact HQ p.2
end Go.M15
end
section
namespace Go.M10
open Go.M15 Go.Pv
def sD(op:Int):Y12:=if op=22 then [1,1,1]else if op=23\/op=27\/op=29 then [2,1]else if op=28 then [2,1,1]else if op=24 then [2]else if op=25 then [3]else [1,1]
def tD(op:Int)(s:Y12):Bool:=jW op&& (decide ((s.length:Int)=ar op) && (if op=22/\s.getD 1 0=2 then decide (s=[1,2,2])else decide (s=(sD op).take s.length)))
theorem O2{op:Int}(h:jW op=true)(g:op≠25/\op≠30/\op≠31):(op=1\/op=2\/op=26) \/op=3\/op=22\/op=23\/op=24\/ (op=27\/op=29) \/op=28\/ (4<=op/\op<=19) \/ (op=20\/op=21):=by
 unfold jW at h;rw [decide_eq_true_eq]at h;omega
def Ki(op im:Int)(k:Y12):Int:=if op=26\/op=27\/op=28\/op=29 then 2 else if op=22 then k.getD 1 0 else if op=3 then(if im.tmod 16=0 then 2 else 1)else 1
theorem d1D{k:Y12}(h:(k.length:Int)=0):k=[]:=BZ IM
theorem d1E{k:Y12}(h:(k.length:Int)=1): ∃a,k=[a]:=by
 match k,h with
 | [a],_=>exact⟨a,rfl⟩
theorem c2V{k:Y12}(h:(k.length:Int)=2): ∃a b,k=[a,b]:=by
 match k,h with
 | [a,b],_=>exact⟨a,b,rfl⟩
theorem c2W{k:Y12}(h:(k.length:Int)=3): ∃a b c,k=[a,b,c]:=by
 match k,h with
 | [a,b,c],_=>exact⟨a,b,c,rfl⟩
theorem a0N{op im:Int}{k:Y12}(j:op≠25/\op≠30/\op≠31)(i: ∀x∈k,1<=x/\x<=3):dW op im k=if tD op k=true/\dY op im=true then Ki op im k else 0:=by
 by_cases hi:dY op im=true
 case neg=>
  rw [if_neg (fun e=>hi e.2)];unfold dW
  rw [if_pos (.inr (.inr (by simpa using hi)))]
 by_cases ha:jW op=true
 case neg=>
  rw [if_neg (fun e=>by unfold tD at e;simp [ha]at e)];unfold dW
  rw [if_pos (.inl (by simpa using ha))]
 by_cases hl:(k.length:Int)=ar op
 case neg=>
  rw [if_neg (fun e=>by unfold tD at e;simp [hl]at e)];unfold dW
  rw [if_pos (.inr (.inl hl))]
 rw [N9 j ha hl hi];have p:tD op k=(if op=22/\k.getD 1 0=2 then decide (k=[1,2,2])else decide (k=(sD op).take k.length)):=by
  unfold tD
  rw [ha,decide_eq_true hl];rfl
 rw [p,hi];rcases O2 ha j with h|rfl|rfl|rfl|rfl|h|rfl|h|h
 ·have h0:ar op=0:=by unfold ar;rw [if_pos IM]
  obtain rfl:=d1D (hl.trans h0);rcases h with rfl|rfl|rfl<;>simp [Ki,sD]
 ·obtain rfl:=d1D (hl.trans IN);have l:0<=im:=by
   unfold dY at hi;rw [decide_eq_true_eq]at hi;have:pS 3=255:=IN;omega
  simp [Ki,sD,CP l]
 ·obtain⟨a,b,c,rfl⟩:=c2W (hl.trans IN);have r1:=i a IP;have u:=i b IP;have z:=i c IP;simp only [Ki,sD,List.getD_cons_zero,List.getD_cons_succ,AK,AY,List.take,BS,and_true,true_and,reduceIte]
  by_cases hb:b=2
  ·subst hb;simp
   by_cases e1:a=1<;>by_cases e2:c=2<;>simp [e1,e2]<;>omega
  ·simp [hb]
   by_cases e1:a=1<;>by_cases e2:b=1<;>by_cases e3:c=1<;>simp [e1,e2,e3]<;>omega
 ·obtain⟨a,b,rfl⟩:=c2V (hl.trans IN);simp [Ki,sD]
 ·obtain⟨a,rfl⟩:=d1E (hl.trans IN);simp [Ki,sD]
 ·have h0:ar op=2:=by rcases h with rfl|rfl<;>decide
  obtain⟨a,b,rfl⟩:=c2V (hl.trans h0);rcases h with rfl|rfl<;>simp [Ki,sD]
 ·obtain⟨a,b,c,rfl⟩:=c2W (hl.trans IN);simp [Ki,sD]
 ·have h0:ar op=2:=by unfold ar;rw [if_neg IM,if_neg IM,if_pos IM]
  obtain⟨a,b,rfl⟩:=c2V (hl.trans h0);have g:sD op=[1,1]:=by unfold sD;rw [if_neg IM,if_neg IM,if_neg IM,if_neg IM,if_neg IM]
  rw [g];have n:op≠3/\op≠26/\op≠22/\op≠23/\op≠24/\op≠27/\op≠28/\op≠29:=IM;simp [Ki,n]
 ·have h0:ar op=1:=by unfold ar;rw [if_neg IM,if_pos IM]
  obtain⟨a,rfl⟩:=d1E (hl.trans h0);have g:sD op=[1,1]:=by unfold sD;rw [if_neg IM,if_neg IM,if_neg IM,if_neg IM,if_neg IM]
  rw [g];have n:op≠3/\op≠26/\op≠22/\op≠23/\op≠24/\op≠27/\op≠28/\op≠29:=IM;simp [Ki,n]
theorem c2X{op:Int}(h:jW op=true)(i:op≠25/\op≠30/\op≠31):0<=ar op/\ar op<=((sD op).length:Int):=by
 rcases O2 h i with h|rfl|rfl|rfl|rfl|h|rfl|h|h
 ·have h0:ar op=0:=by unfold ar;rw [if_pos IM]
  omega
 all_goals try (constructor<;>decide)
 ·rcases h with rfl|rfl<;>(constructor<;>decide)
 ·have h0:ar op=2:=by unfold ar;rw [if_neg IM,if_neg IM,if_pos IM]
  have g:sD op=[1,1]:=by unfold sD;rw [if_neg IM,if_neg IM,if_neg IM,if_neg IM,if_neg IM]
  rw [g,h0];decide
 ·have h0:ar op=1:=by unfold ar;rw [if_neg IM,if_pos IM]
  have g:sD op=[1,1]:=by unfold sD;rw [if_neg IM,if_neg IM,if_neg IM,if_neg IM,if_neg IM]
  rw [g,h0];decide
theorem Xa{op im:Int}{k:Y12}(g: ∀x∈k,1<=x/\x<=3):0<=dW op im k/\dW op im k<=3:=by
 unfold dW
 repeat' split
 all_goals try omega
 rename_i i h2 j l p;have:k.getD 1 0=0\/k.getD 1 0∈k:=by
  rw [AN];rcases BC 1 k.length with q|q
  ·rw [AA q];exact .inr (AG q)
  ·rw [BG q];exact .inl rfl
 rcases this with q|q
 ·omega
 ·have:=g _ q;omega
def Tx(b:Y11)(j:Bool)(s i:Y11)(g:Bool):Prop:=if j=true then g=true else if b.length+s.length<=20000 then g=false/\i=b++s else g=true
theorem Tx.long{b s g:Y11} :Tx b true s g true:=by unfold Tx;rw [if_pos rfl]
theorem Tx.trans{a s b t c:Y11}{g i j:Bool}(h:Tx a g s b i)(k:Tx b i t c j):Tx a g (s++t) c j:=by
 unfold Tx at*
 cases g
 ·simp only [BA,if_false]at h⊢;split at h
  ·obtain⟨rfl,rfl⟩:=h;simp only [BA,if_false]at k;simp only [AH]at k⊢;split at k
   ·rw [if_pos IM];exact⟨k.1,by rw [k.2,DM]⟩
   ·rw [if_neg IM];exact k
  ·subst h;rw [if_pos rfl]at k;rw [if_neg (by simp only [AH];omega)];exact k
 ·rw [if_pos rfl]at h⊢;subst h;rw [if_pos rfl]at k;exact k
def BV(h:Heap)(id:Nat)(g:IV)(b:Y11):Prop:=(g= .nilslice/\b=[]) \/ ∃ib,g= .vslice (some ib) b.length b.length 1 (b.map fun c=> .int .u8 c.toNat)/\h.get ib= .tip b.length/\ib<h.next/\ib≠id/\0<b.length
def PH(h:Heap)(id e:Nat)(l:Y15)(b:Y11)(g:Bool):Prop:=id<h.next/\b.length<=20000/\∃bv,h.get id= .cells [.vslice none e l.length 3 (l.flatMap cN),bv,.bool g]/\BV h id bv b
theorem BV.set{h:Heap}{id:Nat}{b:Y11}{x:IObj}(i:BV h id p b):BV (h.set id x) id p b:=by
 rcases i with q| ⟨j,l,u,z,g,A⟩
 ·exact .inl q
 ·exact .inr ⟨j,l,by rw [aG g];exact u,z,g,A⟩
theorem PH.put{h:Heap}{id e:Nat}{l:Y15}{b:Y11}(g:id<h.next)(j:b.length<=20000)(i:BV h id p b):PH (h.set id (.cells [.vslice none e l.length 3 (l.flatMap cN),p,.bool o])) id e l b o:=
 ⟨g,j,p,aH,i.set⟩
theorem PH.new{h:Heap}{id e:Nat}{l:Y15}{s:Y11}(i:id<h.next)(hs:s.length<=20000)(h0:0<s.length):
  PH ((h.push (.tip (s.length*1))).set id (.cells [.vslice none e l.length 3 (l.flatMap cN),.vslice (some h.next) (s.length*1) s.length 1 (s.map fun c=> .int .u8 c.toNat),.bool o])) id e l s o:=by
 have g:h.next≠id:=IM;refine⟨BM i,hs,_,aH,.inr ⟨h.next,by rw [AO],?_,AQ _,g,h0⟩⟩;rw [aG g,aU,AO]
theorem PH.more{h:Heap}{id e i:Nat}{l:Y15}{b s:Y11}(j:id<h.next)(hs:b.length+s.length<=20000)(p:i<h.next)(g:i≠id)(h0:0<b.length):
  PH ((h.set i (.tip (b.length+s.length*1))).set id (.cells [.vslice none e l.length 3 (l.flatMap cN),.vslice (some i) (b.length+s.length*1) (b.length+s.length) 1 (b.map (fun c=> .int .u8 c.toNat)++s.map fun c=> .int .u8 c.toNat),.bool o])) id e l (b++s) o:=by
 refine⟨j,by rw [AH];exact hs,_,aH,.inr ⟨i,by rw [AO,AH,DE],?_,p,g,by rw [AH];omega⟩⟩;rw [aG g,aH,AO,AH]
theorem Dt: ∀b:Y11,fW (b.map fun c=>IV.int .u8 c.toNat)=some b
 | []=>rfl
 |x::r=>by
  rw [CF,fW,Dt r];simp
theorem a0O: ∀i:Fin 28,(wU.getD (i:Nat) []).length<=5:=by decide+kernel
theorem T8(op:Int):(Cb op).length<=5:=by
 unfold Cb
 split
 ·exact a0O ⟨(op-4).toNat,IM⟩
 ·simp
theorem uX{g:List (Y11)}{ks:Y12}{j:Nat}(h:j<ks.length):sN g (ks.take (j+1))=sN g (ks.take j)++([32]++g.getD (ks[j]).toNat []):=by
 unfold sN
 rw [BI h,EF];simp
end Go.M10
end
section
namespace Go.M10
open Go.M15 Go.Pv Go.M29
def irL(op:Int):Int:=if op=27 then 1 else 0
def irH(op:Int):Int:=if op=27 then 1000016 else if op=30 then 7 else if op=31 then 15 else if op=25 then 15 else 3
theorem Du{b:UInt8}{k:UInt8} :((b.toNat:Int)==(k.toNat:Int))=decide (b=k):=by
 rw [ER,beq_iff_eq,decide_eq_true_eq];refine⟨fun h=>UInt8.toNat_inj.1 IM,fun h=>by rw [h]⟩
section
variable {s a b:Y11} {d:Bool} (ha: ∀c∈a,c≠46) (hs:s=a++if d=true then 46::b else [])
include ha hs
theorem O3{i:Nat}(hi:i<s.length)(g:s[i]=46)(l: ∀j,j<i-> ∀c,s[j]?=some c->c≠46):d=true/\i=a.length:=by
 have e:s[i]?=some 46:=by rw [AA hi,g]
 have p: ¬i<a.length:=fun q=>by
  rw [hs,BD q,AA q,AC]at e;exact ha _ (AG q) e
 cases d
 ·rw [hs]at hi;simp at hi;omega
 ·refine⟨rfl,?_⟩;rcases BC a.length i with q|q
  ·exact absurd rfl (l a.length q 46 (by rw [hs];simp))
  ·omega
end
theorem Dv{s a b:Y11}{d:Bool}(hs:s=a++if d=true then 46::b else [])(g: ∀j,j<s.length-> ∀c,s[j]?=some c->c≠46):d=false:=by
 cases d
 ·rfl
 ·exact absurd rfl (g a.length (by rw [hs];simp) 46 (by rw [hs];simp))
def kyI(n:Nd):Y12:=(IntKind.u8.wrap n.op::b8 (u64 n.im))++n.ks.flatMap fun k=>b8 (u64 k)
def zO(n:Nd):Y11:=(kyI n).map fun x=>UInt8.ofNat x.toNat
def Dw(n:Nd)(cs:Y14):Prop:=cs=(kyI n).map (IV.int .u8)
def qR(n:Nd):Prop:=(1<=n.op/\n.op<=31)/\okN n
theorem b4L{a b:Nd}(ha:qR a)(g:qR b)(h:kyI a=kyI b):a=b:=by
 unfold kyI at h;obtain⟨i,h2⟩:=List.append_inj h (by simp [Kd]);obtain⟨j,l⟩:=List.cons.inj i;rw [u8w,u8w]at j;have p:a.op=b.op:=by have:=ha.1;have:=g.1;omega
 have u:=Qw ha.2.2.1 g.2.2.1 (a0G (Qv _) (Qv _) l);have z:=Dp ha.2.2.2 g.2.2.2 h2
 cases a;cases b
 simp_all
theorem a0R(n:Nd): ∀x∈kyI n,0<=x/\x<256:=by
 intro x g;unfold kyI at g;rcases CB.1 g with g|g
 ·rcases BQ.1 g with rfl|g
  ·rw [u8w];omega
  ·exact b9Z _ x g
 ·obtain⟨k,_,i⟩:=List.mem_flatMap.1 g;exact b9Z _ x i
theorem b4M{a b:Nd}(ha:qR a)(g:qR b):(zO a==zO b)=decide (a=b):=by
 by_cases e:a=b
 ·subst e;simp
 ·have:zO a≠zO b:=fun h=>e (b4L ha g (a0H (a0R a) (a0R b) h))
  simp [e,this]
theorem a0S{op im:Int}{ks:Y12}{k:Nat}(h:k<ks.length):kyI ⟨op,im,ks.take (k+1)⟩=kyI ⟨op,im,ks.take k⟩++b8 (u64 ks[k]):=by
 unfold kyI
 simp only [DM,List.append_cancel_left_eq];rw [BI h,EF];simp
def ixy:Nat->List (Y11×Int)->Y15->List (Y11×Int)
 |_,acc,[]=>acc
 |i,acc,n::r=>ixy (i+1) (if(M15.pT (zO n) acc).isSome then acc else acc++ [(zO n,(i:Int))]) r
def ixY(l:Y15):List (Y11×Int):=ixy 0 [] l
theorem Dx(n:Nd): ∀(l:Y15)(i:Nat)(g:List (Y11×Int)),ixy i g (l++ [n])=if(M15.pT (zO n) (ixy i g l)).isSome then ixy i g l else ixy i g l++ [(zO n,((i+l.length:Nat):Int))]
 | [],i,g=>by
  simp only [DY,ixy,AY,FL]
  try rfl
 |x::l,i,g=>by
  simp only [CQ,ixy,AK];rw [Dx n l];rw [show i+1+l.length=i+(l.length+1) by omega]
  try rfl
theorem Dy{n:Nd}(u:qR n): ∀(l:Y15)(i:Nat)(g:List (Y11×Int)),(∀x∈l,qR x)->M15.pT (zO n) (ixy i g l)=(M15.pT (zO n) g).or ((iY n l i).map fun j=>(j:Int))
 | [],i,g,_=>by simp [ixy,iY]
 |x::l,i,g,h=>by
  simp only [ixy,iY];have z:=h x BJ;rw [Dy u l (i+1) _ (fun y A=>h y (BX _ A))];have p:=b4M u z
  by_cases e:n=x
  ·subst e;rw [if_pos rfl]
   cases hl:M15.pT (zO n) g with
   |some v=>simp [hl]
   |none=>simp [hl,B8,M15.pT]
  ·rw [if_neg e];rw [decide_eq_false e]at p
   cases hl:M15.pT (zO x) g with
   |some v=>simp
   |none=>
    simp only [DI,BA,if_false];rw [B8];simp [M15.pT,p]
theorem C6{n:Nd}(g:qR n){l:Y15}(h: ∀x∈l,qR x):M15.pT (zO n) (ixY l)=(iY n l 0).map fun j=>(j:Int):=by
 unfold ixY
 rw [Dy g l 0 [] h];rfl
theorem Rf{n:Nd}(i:qR n){l:Y15}(h: ∀x∈l,qR x)(e:iY n l 0=none):ixY (l++ [n])=ixY l++ [(zO n,(l.length:Int))]:=by
 have g:=C6 i h;rw [e]at g;unfold ixY at g⊢;rw [Dx,g];simp
def LVr(h:Heap)(id m:Nat)(io:Y10)(lv:IV)(y:Y15):Prop:=(io=none/\lv= .nilslice/\y=[]) \/
 ∃iL,io=some iL/\lv= .vslice (some iL) (y.length*3) y.length 3 (y.flatMap cN)/\h.get iL= .tip (y.length*3)/\iL<h.next/\iL≠id/\iL≠m/\0<y.length
def RH(h:Heap)(id:Nat)(s:Y11)(a:Nat)(y:Y15)(m:Nat)(io:Y10):Prop:=(id<h.next/\m<h.next/\id≠m)/\h.get m= .map (cEm (ixY y))/\∃lv,h.get id= .cells [.str s,.int .i64 a,.bool false,lv,.map m]/\LVr h id m io lv y
def dZ(id m:Nat)(io:Y10)(h h2:Heap):Prop:=h.next<=h2.next/\∀j,j<h.next->j≠id->j≠m->io≠some j->h2.get j=h.get j
def fD(h:Heap)(io g:Y10):Prop:=g=io\/ (io=none/\∃k,g=some k/\h.next<=k)
theorem dZ.refl{id m:Nat}{h:Heap} :dZ id m N h h:=⟨AJ _,fun _ _ _ _ _=>rfl⟩
theorem fD.refl{h:Heap} :fD h N N:= .inl rfl
theorem fD.ne{h:Heap}{io g:Y10}{j:Nat}(k:fD h io g)(l:j<h.next)(i:io≠some j):g≠some j:=by
 rcases k with rfl| ⟨_,q,rfl,h2⟩
 ·exact i
 ·intro e
  cases e
  omega
theorem dZ.trans{id m:Nat}{io g:Y10}{a b c:Heap}(x:dZ id m io a b)(k:fD a io g)(y:dZ id m g b c):dZ id m io a c:=
 ⟨BK x.1 y.1,fun j i h2 l p=>by rw [y.2 j (AI i x.1) h2 l (k.ne i p),x.2 j i h2 l p]⟩
theorem fD.trans{a b:Heap}{io g i:Y10}(x:fD a io g)(u:a.next<=b.next)(y:fD b g i):fD a io i:=by
 rcases x with rfl| ⟨j,q,h2,l⟩
 ·rcases y with rfl| ⟨j,q,h2,l⟩
  ·exact .inl rfl
  ·exact .inr ⟨j,q,h2,BK u l⟩
 ·rcases y with rfl| ⟨p,_⟩
  ·exact .inr ⟨j,q,h2,l⟩
  ·rw [h2]at p;cases p
section
variable {h:Heap} {id:Nat} {s:Y11} {a:Nat} {y:Y15} {m:Nat} {io:Y10} (r:RH h id s a y m io)
include r
theorem RH.frame{h2:Heap}(V:h.next<=h2.next)(g: ∀j,j<h.next->h2.get j=h.get j):RH h2 id s a y m io:=by
 obtain⟨⟨l,p,u⟩,z,lv,A,D⟩:=r;refine⟨⟨IM,IM,u⟩,by rw [g m p,z],lv,by rw [g id l,A],?_⟩;rcases D with q| ⟨i,G,K,L,O,T⟩
 ·exact .inl q
 ·exact .inr ⟨i,G,K,by rw [g i O,L],IM,T⟩
theorem RH.setAt{lv:IV}(e:h.get id= .cells [.str s,.int .i64 a,.bool false,lv,.map m])(b:Nat):RH (h.set id (.cells [.str s,.int .i64 b,.bool false,lv,.map m])) id s b y m io:=by
 obtain⟨⟨l,p,i⟩,u,lv2,g,z⟩:=r;rw [e]at g;simp only [IObj.cells.injEq,BS,true_and,and_true]at g;subst g;refine⟨⟨l,p,i⟩,by rw [aG i.symm,u],lv,aH,?_⟩;rcases z with q| ⟨A,D,G,K,L,j,O⟩
 ·exact .inl q
 ·exact .inr ⟨A,D,G,by rw [aG j,K],L,j,O⟩
theorem RH.io_ne:io≠some id/\io≠some m:=by
 obtain⟨_,_,lv,_,g⟩:=r;rcases g with⟨q,_⟩| ⟨p,i,_,_,_,j,l,_⟩
 ·rw [q];exact⟨IP,IP⟩
 ·rw [i];exact⟨fun e=>j (by cases e;rfl),fun e=>l (by cases e;rfl)⟩
end
theorem dZ.setId{h:Heap}{id m:Nat}{x:IObj} :dZ id m N h (h.set id x):=⟨AJ _,fun j _ g _ _=>aG g⟩
theorem dG{cs:Y14}{K:Y11->Prop}{b:Y11}(e:cs[i]?=some (.str b))(g:K b):bL cs i K:=by
 unfold bL;rw [e];exact g
theorem K1{cs:Y14}{K:Bool->Prop}{b:Bool}(e:cs[i]?=some (.bool b))(g:K b):kQ cs i K:=by
 unfold kQ;rw [e];exact g
theorem put_nil{g:Heap}{id m a:Nat}{s:Y11}{n:Nd}(r:RH g id s a [] m none)(z:qR n):
  RH (((g.set m (.map (cEm (ixY []++ [(zO n,0)])))).push (.tip 3)).set id (.cells [.str s,.int .i64 a,.bool false,.vslice (some g.next) 3 1 3 (cN n),.map m])) id s a [n] m (some g.next):=by
 obtain⟨⟨G,j,p⟩,L,lv,K,u⟩:=r;have A:=Rf z (l:=[]) (fun x h=>by cases h) rfl;have i:g.next≠id:=IM;have D:g.next≠m:=IM;refine⟨⟨BM G,BM j,p⟩,?_,_,aH,.inr ⟨g.next,rfl,?_,?_,AQ _,i,D,Nat.one_pos⟩⟩
 ·rw [aG p.symm,aL (show m< (g.set m _).next from j),aH];rw [show([n]:Y15)=[]++ [n]from rfl,A];rfl
 ·simp
 ·rw [aG i];exact aU
theorem put_some{g:Heap}{id m a i:Nat}{s:Y11}{y:Y15}{n:Nd}(r:RH g id s a y m (some i))(z:qR n)(D: ∀x∈y,qR x)(e:iY n y 0=none):
  RH (((g.set m (.map (cEm (ixY y++ [(zO n,(y.length:Int))])))).set i (.tip (y.length*3+3))).set id (.cells [.str s,.int .i64 a,.bool false,.vslice (some i) (y.length*3+3) (y.length+1) 3 (y.flatMap cN++cN n),.map m])) id s a (y++ [n]) m (some i):=by
 obtain⟨⟨K,L,l⟩,X,lv,V,j⟩:=r;have A:=Rf z D e;rcases j with⟨q,_⟩| ⟨G,O,Y,Z,T,p,u,t6⟩
 ·cases q
 ·cases O
  refine⟨⟨K,L,l⟩,?_,_,aH,.inr ⟨i,rfl,?_,?_,T,p,u,IP⟩⟩
  ·rw [aG l.symm,aG u.symm,aH,A]
  ·simp [DV]
  ·rw [aG p,aH];simp [DV]
def nx(s:Y11)(a:Nat)(c:Int):Bool:=match s[a]? with
 |some b=>((b.toNat:Int)==c)
 |none=>false
def We(r:Y11):Prop:= ∀c q,r=c::q->c=32\/c=40\/c=41
def KA(s:IV)(ks:Y12):Prop:=(s= .nilslice/\ks=[]) \/ ∃(i:Y10)(g:Nat),s= .vslice i g ks.length 1 (ks.map (IV.int .i64))
theorem KA.nil:KA .nilslice []:= .inl ⟨rfl,rfl⟩
def b4N(c:UInt8):Bool:=c==32||c==40||c==41
def dI(s:Y11)(a:Nat):Y11:=(s.drop a).takeWhile fun c=>!b4N c
def rsA(s:Y11)(a:Nat):Y11:=(s.drop a).dropWhile fun c=>!b4N c
theorem zP(s:Y11)(a:Nat):s.drop a=dI s a++rsA s a:=List.takeWhile_append_dropWhile.symm
theorem wX{p:UInt8->Bool} : ∀(l:Y11)(c:UInt8),c∈l.takeWhile p->p c=true
 | [],_,h=>by cases h
 |x::r,c,h=>by
  rw [List.takeWhile_cons]at h;split at h
  ·rename_i q;rcases BQ.1 h with d|d
   ·rw [d];exact q
   ·exact wX r c d
  ·cases h
theorem C7{p:UInt8->Bool} : ∀(l:Y11)(c:UInt8)(q:Y11),l.dropWhile p=c::q->p c=false
 | [],_,_,h=>by cases h
 |x::r,c,q,h=>by
  rw [List.dropWhile_cons]at h;split at h
  ·exact C7 r c q h
  ·rename_i d;rw [BS]at h;rw [<-h.1];exact Bool.eq_false_iff.2 d
theorem a0U{s:Y11}{a:Nat} : ∀c∈dI s a,wd c:=fun c g=>by
 have h:=wX _ c g;unfold b4N at h;simp only [CH,Bool.or_eq_false_iff,beq_eq_false_iff_ne]at h;exact⟨h.1.1,h.1.2,h.2⟩
theorem a0V(s:Y11)(a:Nat):We (rsA s a):=fun c q e=>by
 have h:=C7 _ c q e;unfold b4N at h;simp only [CV,CL,beq_iff_eq]at h;rcases h with(h|h)|h
 ·exact .inl h
 ·exact .inr (.inl h)
 ·exact .inr (.inr h)
theorem rV{s:Y11}{a:Nat}(h:a<=s.length):a+(dI s a).length<=s.length:=by
 have:=congrArg List.length (zP s a);rw [CD,AH]at this;omega
def mD(s:Y11)(m:Nat):Y10:=if s≠[]/\s.length<=19/\(∀b∈s,48<=b.toNat/\b.toNat<=57)/\(1<s.length->s[0]?≠some 48)/\val s<=m then some (val s)else none
def kS(s:Y11):Option Int:=match s with
 | []=>none
 |c::t=>if c=45 then(match mD t 9223372036854775808 with
  |some n=>if n=0 then none else some (-(n:Int))
  |none=>none)else(mD (c::t) 9223372036854775807).map fun n:Nat=>(n:Int)
theorem jT{s:Y11}{m n:Nat}(h:mD s m=some n):s≠[]/\n=val s/\n<=m:=by
 unfold mD at h;split at h
 ·rename_i c;have e:=AX h;exact⟨c.1,e.symm,e▸c.2.2.2.2⟩
 ·cases h
theorem c0C{s:Y11}{n:Int}(h:kS s=some n):aR n:=by
 unfold kS at h;split at h
 ·cases h
 ·split at h
  ·split at h
   ·rename_i q e;have:=(jT e).2.2;split at h
    ·cases h
    ·have e:=AX h;unfold aR
     omega
   ·cases h
  ·obtain⟨q,e,g⟩:=AD.1 h;have:=(jT e).2.2;unfold aR
   omega
def pO(s:Y11)(lo hi:Int):Option Int:=match kS s with
 |some n=>if lo<=n/\n<=hi then some n else none
 |none=>none
theorem a0W{s:Y11}{m m2:Nat}(h:m<=m2):mD s m=(match mD s m2 with
  |some n=>if n<=m then some n else none
  |none=>none):=by
 unfold mD
 by_cases c:s≠[]/\s.length<=19/\(∀b∈s,48<=b.toNat/\b.toNat<=57)/\(1<s.length->s[0]?≠some 48)
 ·obtain⟨g,i,j,c4⟩:=c
  by_cases d:val s<=m
  ·rw [if_pos ⟨g,i,j,c4,d⟩,if_pos ⟨g,i,j,c4,BK d h⟩];exact(if_pos d).symm
  ·rw [if_neg fun q=>d q.2.2.2.2]
   by_cases e:val s<=m2
   ·rw [if_pos ⟨g,i,j,c4,e⟩];exact(if_neg d).symm
   ·rw [if_neg fun q=>e q.2.2.2.2]
 ·rw [if_neg fun q=>c ⟨q.1,q.2.1,q.2.2.1,q.2.2.2.1⟩,if_neg fun q=>c ⟨q.1,q.2.1,q.2.2.1,q.2.2.2.1⟩]
theorem a0X{t:Y11}{m:Nat} :mD (45::t) m=none:=by
 unfold mD
 rw [if_neg];intro c;have:=c.2.2.1 45 BJ;exact absurd this IN
theorem Kj{s:Y11}{m:Nat}(h:m<=9223372036854775807):pO s 0 (m:Int)=(mD s m).map fun n:Nat=>(n:Int):=by
 unfold pO kS
 cases s with
 |nil=>unfold mD;rfl
 |cons c t=>
  dsimp only
  by_cases e:c=45
  ·subst e;rw [if_pos rfl,a0X]
   cases mD t 9223372036854775808 with
   |none=>rfl
   |some n=>
    dsimp only
    by_cases z:n=0
    ·rw [if_pos z];rfl
    ·rw [if_neg z];exact if_neg IM
  ·rw [if_neg e,a0W h]
   cases mD (c::t) 9223372036854775807 with
   |none=>rfl
   |some n=>
    dsimp only [Option.map_some]
    by_cases d:n<=m
    ·rw [if_pos d,if_pos IM];rfl
    ·rw [if_neg d,if_neg IM];rfl
theorem gV{s:Y11}{i:Nat}{K:Int->Prop}(h:i<s.length)(g:K s[i].toNat):gN s i K:=by
 unfold gN
 rw [AA h];exact g
theorem u64_in{n:Int}(h:0<=n/\n<18446744073709551616):IntKind.u64.wrap n=n:=by
 simp only [IntKind.wrap,IntKind.bits,IntKind.signed];simp;omega
theorem u8_in{n:Int}(h:0<=n/\n<256):IntKind.u8.wrap n=n:=by
 simp only [IntKind.wrap,IntKind.bits,IntKind.signed];simp;omega
theorem d5W{a:Int}(h:0<=a/\a<=9223372036854775808):IntKind.i64.wrap (IntKind.u64.wrap (0-a))= -a:=by
 simp only [IntKind.wrap,IntKind.bits,IntKind.signed];simp;split<;>omega
theorem d1F{a:Int}(h:1<=a/\a<=9223372036854775808):IntKind.i64.wrap (IntKind.i64.wrap (0-IntKind.i64.wrap (IntKind.u64.wrap (a-1)))-1)= -a:=by
 simp only [IntKind.wrap,IntKind.bits,IntKind.signed];simp
 repeat' split
 all_goals omega
theorem a0Y: ∀(l:Y11)(a:Nat),a<=l.foldl (fun a b=>a*10+(b.toNat-48)) a
 | [],a=>AJ _
 |b::r,a=>by
  rw [GE];exact BK IM (a0Y r _)
theorem b4O{c:UInt8}{r:Y11}(h:48<c.toNat):0<val (c::r):=by
 unfold val
 rw [GE];exact AI IM (a0Y r _)
def O4(s:Y11)(i:Nat)(n:Int):Prop:=(∀b∈s.take i,48<=b.toNat/\b.toNat<=57)/\n=(val (s.take i):Int)/\val (s.take i)<10^i
theorem Dz(s:Y11):O4 s 0 0:=⟨fun b h=>(by cases h),rfl,Nat.one_pos⟩
theorem p19{i:Nat}(h:i<=18):10^i<=1000000000000000000:=BK (Nat.pow_le_pow_right IN h) IN
theorem O4.step{s:Y11}{i:Nat}{n:Int}(h:O4 s i n)(hi:i<s.length)(g:i<=18)(hd:48<=s[i].toNat/\s[i].toNat<=57):O4 s (i+1) (IntKind.u64.wrap (IntKind.u64.wrap (10*n)+IntKind.u64.wrap (IntKind.u8.wrap ((s[i].toNat:Int)-48)))):=by
 obtain⟨l,h2,p⟩:=h;have u:=p19 g;have e:s.take (i+1)=s.take i++ [s[i]]:=BI hi;rw [u8_in IM,u64_in (n:=(s[i].toNat:Int)-48) IM,u64_in (n:=10*n) IM,u64_in IM];refine⟨fun b j=>?_,?_,?_⟩
 ·rw [e]at j;rcases CB.1 j with d|d
  ·exact l b d
  ·rw [BO.1 d];exact hd
 ·rw [e,Dr,h2];omega
 ·rw [e,Dr,Nat.pow_succ];omega
theorem O4.all{s:Y11}{n:Int}{m:Nat}(h:O4 s s.length n)(h0:s≠[])(g:s.length<=19)(j:1<s.length->s[0]?≠some 48):mD s m=if n<=(m:Int)then some (val s)else none:=by
 obtain⟨i,h2,_⟩:=h;rw [DR]at i h2;unfold mD
 by_cases c:val s<=m
 ·rw [if_pos ⟨h0,g,i,j,c⟩,if_pos IM]
 ·rw [if_neg fun q=>c q.2.2.2.2,if_neg IM]
theorem zQ{s:Y11}{i m:Nat}(hi:i<s.length)(h: ¬ (48<=s[i].toNat/\s[i].toNat<=57)):mD s m=none:=if_neg fun q=>h (q.2.2.1 _ (AG hi))
theorem Rg{s:Y11}{m:Nat}(h:19<s.length):mD s m=none:=if_neg fun q=>by have:=q.2.1;omega
theorem c0D{s:Y11}{m:Nat}(h:1<s.length)(h0:s[0]?=some 48):mD s m=none:=if_neg fun q=>q.2.2.2.1 h h0
theorem Rh{m:Nat} :mD [] m=none:=if_neg fun q=>q.1 rfl
def rNm(s:Y11)(m:Nat):IV:= .tuple [.int .u64 (((mD s m).getD 0:Nat):Int),.bool (mD s m).isSome]
def rIn(s:Y11):IV:= .tuple [.int .i64 ((kS s).getD 0),.bool (kS s).isSome]
def rRg(s:Y11)(lo hi:Int):IV:= .tuple [.int .i64 ((kS s).getD 0),.bool (pO s lo hi).isSome]
def bQ(s:Y11):Y11×Y11×Bool:=match s.dropWhile (fun c=>!(c==46))with
 | []=>(s.takeWhile (fun c=>!(c==46)),[],false)
 |_::b=>(s.takeWhile (fun c=>!(c==46)),b,true)
theorem mE(s:Y11):(∀c∈ (bQ s).1,c≠46)/\s=(bQ s).1++(if(bQ s).2.2=true then 46::(bQ s).2.1 else [])/\((bQ s).2.2=false->(bQ s).2.1=[]):=by
 have h0: ∀c∈s.takeWhile (fun c=>!(c==46)),c≠46:=fun c i e=>by
  have:=wX _ c i;rw [e]at this
  cases this
 have g:s=s.takeWhile (fun c=>!(c==46))++s.dropWhile (fun c=>!(c==46)):=List.takeWhile_append_dropWhile.symm;unfold bQ
 cases e:s.dropWhile (fun c=>!(c==46))with
 |nil=>
  rw [e]at g;exact⟨h0,g,fun _=>rfl⟩
 |cons x b=>
  have:=C7 _ _ _ e;have j:x=46:=by simpa using this
  rw [e,j]at g;exact⟨h0,g,fun q=>by cases q⟩
def Ir(w:Y11):Option (Int×Int):=if w=[115,116,97,114,116]then some (26,0)else match w with
 | []=>none
 |c::t=>if c=112 then(pO t 0 5).map fun n=>(2,n)
  else if c=118 then(if(bQ t).2.2=true then(match pO (bQ t).1 0 15,pO (bQ t).2.1 0 15 with
   |some a,some b=>some (3,16*a+b)
   |_,_=>none)else none)
  else(kS (c::t)).map fun n=>(1,n)
def Kk(s:Y11):List (Y11)->Int->Option Int
 | [],_=>none
 |x::r,i=>if x=s then some i else Kk s r (i+1)
def nN(s:Y11):Option Int:=Kk s wU 4
theorem a0Z{s:Y11}{a:Int} : ∀{l:List (Y11)}{i:Int},Kk s l i=some a->i<=a/\a<i+l.length
 | [],_,h=>by cases h
 |x::r,i,h=>by
  rw [Kk]at h;split at h
  ·have:=AX h;rw [AK];omega
  ·have:=a0Z h;rw [AK];omega
theorem a1A{s:Y11}{a:Int}(h:nN s=some a):4<=a/\a<=31:=by
 have:=a0Z h;rw [show wU.length=28 from rfl]at this;omega
def kT(w:Y11):Option (Int×Int):=match nN (bQ w).1 with
 |none=>none
 |some op=>if op=26 then none else if(bQ w).2.2=nM op then(if(bQ w).2.2=true then(pO (bQ w).2.1 (irL op) (irH op)).map fun n=>(op,n)else some (op,0))else none
theorem wY{s:Y11}{lo hi n:Int}(h:pO s lo hi=some n):aR n/\lo<=n/\n<=hi:=by
 unfold pO at h;split at h
 ·rename_i q e;split at h
  ·rename_i c;obtain rfl:=AX h;exact⟨c0C e,c⟩
  ·cases h
 ·cases h
theorem T9{w:Y11}{p:Int×Int}(h:Ir w=some p):(1<=p.1/\p.1<=31)/\aR p.2/\w≠[]:=by
 unfold Ir at h;split at h
 ·rename_i c;obtain rfl:=AX h;refine⟨IN,by unfold aR;decide,by rw [c];decide⟩
 ·split at h
  ·cases h
  ·refine(fun q:(1<=p.1/\p.1<=31)/\aR p.2=>⟨q.1,q.2,IP⟩) ?_;split at h
   ·obtain⟨n,e,rfl⟩:=AD.1 h;exact⟨by dsimp only;decide,(wY e).1⟩
   ·split at h
    ·split at h
     ·split at h
      ·rename_i a b g i;have j:=(wY g).2;have h2:=(wY i).2;obtain rfl:=AX h;refine⟨by dsimp only;decide,?_⟩;unfold aR
       dsimp only;omega
      ·cases h
     ·cases h
    ·obtain⟨n,e,rfl⟩:=AD.1 h;exact⟨by dsimp only;decide,c0C e⟩
theorem Kl{w:Y11}{p:Int×Int}(h:kT w=some p):(1<=p.1/\p.1<=31)/\aR p.2:=by
 unfold kT at h;split at h
 ·cases h
 ·rename_i op e;have g:=a1A e;split at h
  ·cases h
  ·split at h
   ·split at h
    ·obtain⟨n,e,rfl⟩:=AD.1 h;exact⟨IS,(wY e).1⟩
    ·obtain rfl:=AX h;exact⟨IS,by unfold aR;dsimp only;decide⟩
   ·cases h
abbrev Rd:=Nat×Option (Y15×Int)
def wZ(s:Y11)(g:Nat->Y15->Rd):Nat->Nat->Y15->Y12->Nat×Option (Y15×Y12)
 |0,a,_,_=>(a,none)
 |n+1,a,y,ks=>if nx s a 32=true then
   match g (a+1) y with
   | (p,none)=>(p,none)
   | (p,some (y2,i))=>wZ s g n p y2 (ks++ [i])
  else if nx s a 41=true then(a+1,some (y,ks))else(a,none)
def kG(s:Y11):Nat->Nat->Y15->Rd
 |0,a,_=>(a,none)
 |f+1,a,y=>if nx s a 40=true then
   match kT (dI s (a+1))with
   |none=>(a+1,none)
   |some o=>match wZ s (kG s f) (s.length+1) (a+1+(dI s (a+1)).length) y []with
    | (p,none)=>(p,none)
    | (p,some (y2,ks))=>(p,some (cH y2 ⟨o.1,o.2,ks⟩))
  else match Ir (dI s a)with
   |none=>(a,none)
   |some o=>(a+(dI s a).length,some (cH y ⟨o.1,o.2,[]⟩))
theorem Ea{s:Y11}{a:Nat}{c:Int}(h:nx s a c=true):a<s.length:=by
 unfold nx at h;split at h
 ·rename_i b e;exact(BB.1 e).1
 ·cases h
def O5(n:Nd):Prop:=qR n/\n.ks.length<=1000000
structure RdOk(a:Nat)(y:Y15)(p:Nat)(y2:Y15)(i:Int):Prop where
 pos:a<p
 pre:y<+:y2
 len:y2.length+a<=y.length+p
 ok:(∀n∈y,O5 n)/\y.length<=a/\p<=900000-> ∀n∈y2,O5 n
 ix:0<=i/\i<y2.length
 back:wV y->wV y2
 last:wV y->y2=y\/i=(y2.length:Int)-1
theorem O6{n:Nd} : ∀{l:Y15}{j i:Nat},iY n l j=some i-> ∃q,i=j+q/\l[q]?=some n
 | [],_,_,h=>by cases h
 |x::r,j,i,h=>by
  rw [iY]at h;split at h
  ·rename_i c;obtain rfl:=AX h;exact⟨0,rfl,by rw [c];rfl⟩
  ·obtain⟨q,p,g⟩:=O6 h;exact⟨q+1,IM,by rw [DB];exact g⟩
theorem a1B(y:Y15)(n:Nd):(∃q:Nat,q<y.length/\y[q]?=some n/\cH y n=(y,(q:Int))) \/cH y n=(y++ [n],(y.length:Int)):=by
 unfold cH
 cases e:iY n y 0 with
 |none=>exact .inr rfl
 |some i=>
  obtain⟨q,j,g⟩:=O6 e;obtain rfl:i=q:=IM;exact .inl ⟨i,(BB.1 g).1,g,rfl⟩
theorem wV.snoc{l:Y15}{n:Nd}(h:wV l)(j: ∀k∈n.ks,0<=k/\k<l.length):wV (l++ [n]):=fun i m e k g=>by
 rcases Nat.lt_trichotomy i l.length with c|c|c
 ·rw [BD c]at e;exact h i m e k g
 ·subst c;rw [BU (AJ _),EZ,DC,AC]at e;subst e;exact j k g
 ·rw [BG (by rw [AH,List.length_singleton];omega)]at e
  cases e
structure KsOk(a:Nat)(y:Y15)(ks:Y12)(p:Nat)(y2:Y15)(kz:Y12):Prop where
 pos:a<p
 pre:y<+:y2
 len:y2.length+a<=y.length+p
 ok:(∀n∈y,O5 n)/\y.length<=a/\p<=900000-> ∀n∈y2,O5 n
 back:wV y->wV y2
 kl:kz.length+a<=ks.length+p
 kb:(∀k∈ks,0<=k/\k< (y.length:Int))-> ∀k∈kz,0<=k/\k< (y2.length:Int)
 last:wV y->y2=y\/ ((y2.length:Int)-1) ∈kz
 sub: ∀k∈ks,k∈kz
theorem a1C{s:Y11}{g:Nat->Y15->Rd}(A: ∀a y p j i,g a y=(p,some (j,i))->RdOk a y p j i): ∀(n a:Nat)(y:Y15)(ks:Y12)(p:Nat)(j:Y15)(u:Y12),wZ s g n a y ks=(p,some (j,u))->KsOk a y ks p j u
 |0,a,y,ks,p,j,u,h=>by cases h
 |n+1,a,y,ks,p,j,u,h=>by
  rw [wZ]at h;split at h
  ·split at h
   ·cases h
   ·rename_i q z i e;have r:=A _ _ _ _ _ e;have c:=a1C A n q z (ks++ [i]) p j u h;refine⟨by have:=r.pos;have:=c.pos;omega,r.pre.trans c.pre,by have:=r.len;have:=c.len;omega,fun q=>c.ok ⟨r.ok ⟨q.1,by have:=q.2.1;omega,by have:=c.pos;have:=q.2.2;omega⟩,by have:=r.len;have:=q.2.1;omega,q.2.2⟩,fun q=>c.back (r.back q),?_,fun q=>c.kb fun k l=>?_,fun q=>?_,fun k l=>c.sub k (List.mem_append_left _ l)⟩
    ·have:=c.kl;have:=r.pos;rw [AH,List.length_singleton]at*
     omega
    ·rcases CB.1 l with d|d
     ·have:=q k d;have:=r.pre.length_le;omega
     ·rw [BO.1 d];exact r.ix
    ·rcases c.last (r.back q)with d|d
     ·rcases r.last q with f|f
      ·exact .inl (d.trans f)
      ·refine .inr ?_;rw [d,<-f];exact c.sub i (List.mem_append_right _ BJ)
     ·exact .inr d
  ·split at h
   ·cases h
    exact⟨AQ _,DW _,IM,fun q=>q.1,fun q=>q,IM,fun q=>q,fun _=> .inl rfl,fun k l=>l⟩
   ·cases h
theorem a1D{s:Y11}{g:Nat->Y15->Rd}(u: ∀a y p j i,g a y=(p,some (j,i))->p<=s.length): ∀(n a:Nat)(y:Y15)(ks:Y12)(p:Nat)(j:Y15)(l:Y12),wZ s g n a y ks=(p,some (j,l))->p<=s.length
 |0,a,y,ks,p,j,l,h=>by cases h
 |n+1,a,y,ks,p,j,l,h=>by
  rw [wZ]at h;split at h
  ·split at h
   ·cases h
   ·exact a1D u n _ _ _ p j l h
  ·split at h
   ·rename_i c;have:=Ea c
    cases h
    omega
   ·cases h
theorem Ri{y:Y15}{n:Nd}{a p:Nat}{y0:Y15}(j:a<p)(pre:y0<+:y)(len:y.length+a+1<=y0.length+p)(g:(∀n∈y0,O5 n)/\y0.length<=a/\p<=900000->(∀n∈y,O5 n)/\O5 n)(i:wV y0->wV y/\∀k∈n.ks,0<=k/\k< (y.length:Int))
  (hl:wV y0->y=y0\/ ((y.length:Int)-1) ∈n.ks):RdOk a y0 p (cH y n).1 (cH y n).2:=by
 rcases a1B y n with⟨q,u,e,h⟩|h
 ·rw [h];refine⟨j,pre,IS,fun c=>(g c).1,⟨IS,IS⟩,fun c=>(i c).1,fun c=>?_⟩;rcases hl c with d|d
  ·exact .inl d
  ·have:=(i c).1 q n e _ d;omega
 ·rw [h];refine⟨j,pre.trans (EJ _ _),by simp;omega,fun c m l=>?_,⟨IS,by simp;omega⟩,fun c=>(i c).1.snoc (i c).2,fun _=> .inr IP⟩;rcases CB.1 l with d|d
  ·exact(g c).1 m d
  ·rw [BO.1 d];exact(g c).2
theorem xF(s:Y11)(hs:s.length<=900000): ∀(f a:Nat)(y:Y15)(p:Nat)(j:Y15)(i:Int),kG s f a y=(p,some (j,i))->RdOk a y p j i/\p<=s.length
 |0,a,y,p,j,i,h=>by cases h
 |f+1,a,y,p,j,i,h=>by
  rw [kG]at h;split at h
  ·rename_i u;have Z:=Ea u;have hw:=rV (s:=s) (a:=a+1) IM;split at h
   ·cases h
   ·rename_i o D;obtain⟨oo,L⟩:=Kl D;split at h
    ·cases h
    ·rename_i q z ks T;have g:=a1C (fun a y p j i e=>(xF s hs f a y p j i e).1) _ _ _ _ _ _ _ T;have hq:q<=s.length:=a1D (fun a y p j i e=>(xF s hs f a y p j i e).2) _ _ _ _ _ _ _ T;have O:p=q:=(congrArg Prod.fst h).symm;have A:cH z ⟨o.1,o.2,ks⟩=(j,i):=AX (congrArg Prod.snd h);have h1:=g.pos;have h2:=g.len;have X:=g.kl;rw [AY]at X;subst O;refine⟨?_,hq⟩;have:=Ri (y:=z) (n:=⟨o.1,o.2,ks⟩) (a:=a) (p:=p) (y0:=y) IM g.pre IM (fun c=>⟨g.ok ⟨c.1,by have:=c.2.1;omega,c.2.2⟩,⟨⟨IS,IS⟩,⟨by unfold aR;dsimp only;omega,L,fun k l=>?_⟩⟩,by dsimp only;have:=c.2.2;omega⟩) (fun c=>⟨g.back c,g.kb (fun k g=>by cases g)⟩) g.last
     ·rw [A]at this;exact this
     ·have:=g.kb (fun k g=>by cases g) k l;have:=c.2;unfold aR
      omega
  ·split at h
   ·cases h
   ·rename_i o D;obtain⟨Y,L,K⟩:=T9 D;have O:p=a+(dI s a).length:=(congrArg Prod.fst h).symm;have A:cH y ⟨o.1,o.2,[]⟩=(j,i):=AX (congrArg Prod.snd h);have V:0< (dI s a).length:=List.length_pos_iff.2 K;have G:p<=s.length:=by
     have:=congrArg List.length (zP s a);rw [CD,AH]at this;omega
    refine⟨?_,G⟩;have:=Ri (y:=y) (n:=⟨o.1,o.2,[]⟩) (a:=a) (p:=p) (y0:=y) IM (DW _) IM (fun c=>⟨c.1,⟨⟨IS,IS⟩,⟨by unfold aR;dsimp only;omega,L,fun k l=>by cases l⟩⟩,AR _⟩) (fun c=>⟨c,fun k l=>by cases l⟩) (fun _=> .inl rfl);rw [A]at this;exact this
end Go.M10
end
section
namespace Go.M10
open Go.M15 Go.Pv
def Ym(m:Nat):Y12:=2::(List.replicate m 1++2::List.replicate (m-1) 1)
def qS(k:Y12):Bool:=decide (k.length%2=1) && (decide (3<=k.length) && (decide (k.length<=33) &&decide (k=Ym (k.length/2))))
def qT(k:Y12):Bool:=match k with
 | []=>false
 |a::r=>decide (r.length<=6) && (decide (a=2) &&r.all fun x=>decide (x=1))
def bC(e:Nat)(op im:Int)(k:Y12):Int:=
 if op=31 then(if qS k=true/\dY 31 im=true then 3 else 0)
 else if op=30 then(if qT k=true/\dY 30 im=true then 2 else 0)
 else if op=25 then(if k=[3]/\0<=im/\im<=15/\2*im+3<=e then(if im=0 then 2 else 1)else 0)
 else dW op im k
def eK(l:Y15)(n:Nd):Nat:=(l.getD (n.ks.getD 0 0).toNat default).ks.length
def cP(l:Y15)(g:Y12)(n:Nd):Int:=if n.ks.all (iG g)=true then bC (eK l n) n.op n.im (n.ks.map fun q=>g.getD q.toNat 0)else 0
def fJ:Y15->Y12->Y15->Y12
 |_,out,[]=>out
 |p,out,n::r=>fJ (p++ [n]) (out++ [cP p out n]) r
def aK(l:Y15):Y12:=fJ [] [] l
theorem yM(n:Nd): ∀(l p:Y15)(g:Y12),fJ p g (l++ [n])=fJ p g l++ [cP (p++l) (fJ p g l) n]
 | [],p,g=>by
  rw [DK];rfl
 |x::l,p,g=>by
  rw [CQ,fJ,fJ,yM n l,DM,HZ]
theorem qU(l:Y15)(n:Nd):aK (l++ [n])=aK l++ [cP l (aK l) n]:=by
 have:=yM n l [] []
 rwa [DY]at this
theorem C8: ∀(l p:Y15)(g:Y12),(fJ p g l).length=g.length+l.length
 | [],p,g=>rfl
 |x::l,p,g=>by
  rw [fJ,C8 l];simp only [AH,AK,AY];omega
theorem bR(l:Y15):(aK l).length=l.length:=by unfold aK;rw [C8];simp
theorem C9: ∀(l p:Y15)(g:Y12),g<+:fJ p g l
 | [],p,g=>DW _
 |x::l,p,g=>(EJ _ _).trans (C9 l _ _)
theorem D0: ∀(l r p:Y15)(g:Y12),fJ p g (l++r)=fJ (p++l) (fJ p g l) r
 | [],r,p,g=>by rw [DK];rfl
 |x::l,r,p,g=>by rw [CQ,fJ,fJ,D0 l r,DM,HZ]
theorem jG{l y:Y15}(h:l<+:y):aK l<+:aK y:=by
 obtain⟨r,rfl⟩:=h;unfold aK
 rw [D0];exact C9 _ _ _
theorem bW{l:Y15}{i:Nat}(h:i<l.length):aK (l.take (i+1))=aK (l.take i)++ [cP (l.take i) (aK (l.take i)) l[i]]:=by
 rw [BI h,qU]
theorem cD{p:Y15}{n:Nd}{q:Int}(g:q∈n.ks)(h:iG K q=false):cP p K n=0:=by
 unfold cP
 rw [if_neg];intro e;rw [CA.1 e q g]at h
 cases h
def sO(l:Y15)(i j:Nat)(k:Y12):Prop:= ∃n,l[i]?=some n/\(j<=n.ks.length/\k.length=j)/\(n.ks.take j).all (iG (aK (l.take i)))=true/\k=(n.ks.take j).map fun q=>(aK (l.take i)).getD q.toNat 0
theorem sO.zero{l:Y15}{i:Nat}(h:i<l.length):sO l i 0 []:=⟨l[i],AA h,⟨AR _,rfl⟩,rfl,rfl⟩
theorem sO.step{l:Y15}{i j:Nat}{k:Y12}(h:sO l i j k)(hi:i<l.length)(p:j<l[i].ks.length)(A:iG (aK (l.take i)) l[i].ks[j]=true):sO l i (j+1) (k++ [(aK (l.take i)).getD (l[i].ks[j]).toNat 0]):=by
 obtain⟨n,g,h2,u,z⟩:=h;obtain rfl:l[i]=n:=by rw [AA hi]at g;exact AX g
 refine⟨_,g,⟨p,by simp [h2.2]⟩,?_,?_⟩
 ·rw [BI p,List.all_append,u];simp [A]
 ·rw [BI p,DE,z];rfl
theorem rW{q:Int}(h:iG K q=true):0<=q/\q<K.length/\K.getD q.toNat 0≠0:=by
 unfold iG at h;simp only [AF,decide_eq_true_eq]at h;exact h
theorem nO{k:Y12}(h:qS k=true):k.length%2=1/\3<=k.length/\k.length<=33/\k=Ym (k.length/2):=by
 unfold qS at h;simp only [AF,decide_eq_true_eq]at h;exact h
theorem Rj{m:Nat}(h:1<=m):(Ym m).length=2*m+1:=by
 unfold Ym
 simp;omega
theorem Rk{m:Nat}(g:1<=m)(h2:m<=16):qS (Ym m)=true:=by
 unfold qS
 rw [Rj g,show(2*m+1)/2=m by omega];simp only [AF,decide_eq_true_eq];exact⟨IM,IM,IM,trivial⟩
theorem Xb{op im:Int}{k:Y12} :dW op im k≠3:=by
 unfold dW
 repeat' split
 all_goals omega
theorem Eb{e:Nat}{op im:Int}{k:Y12}(h:bC e op im k=3):op=31/\qS k=true:=by
 unfold bC at h;split at h
 ·rename_i c;split at h
  ·rename_i d;exact⟨c,d.1⟩
  ·omega
 ·split at h
  ·split at h<;>omega
  ·split at h
   ·split at h
    ·split at h<;>omega
    ·omega
   ·exact absurd h Xb
theorem nP: ∀{l:Y15}{j:Nat}{n:Nd},l[j]?=some n->(aK l).getD j 0=cP (l.take j) (aK (l.take j)) n:=by
 intro l j n h;obtain⟨g,rfl⟩:=BB.1 h;have e:l.take (j+1)=l.take j++ [l[j]]:=BI g;have p:=qU (l.take j) l[j];rw [<-e]at p;have h2:=nL (jG (EH (j+1) l)) (i:=j) (by rw [bR,AW];omega);rw [h2,p,AN,BU (by rw [bR,AW];omega),bR,AW,show j-min j l.length=0 by omega];rfl
theorem Km{l:Y15}{q:Nat}(h:(aK l).getD q 0=3):(l.getD q default).ks.length%2=1:=by
 rcases BC q l.length with c|c
 ·have g:=AA c;rw [nP g]at h;unfold cP at h;split at h
  ·have:=nO (Eb h).2;rw [BF]at this;rw [AN,g];exact this.1
  ·omega
 ·rw [AN,BG (by rw [bR];exact c)]at h
  cases h
theorem xG{l:Y15}{i q:Nat}(h:q<i):(l.take i).getD q default=l.getD q default:=by
 rw [AN,AN,EE h]
theorem sO.last{l:Y15}{i j:Nat}{k:Y12}(h:sO l i j k)(hi:i<l.length)(K:l[i].ks.length<=j):
  cP (l.take i) (aK (l.take i)) l[i]=bC (eK (l.take i) l[i]) l[i].op l[i].im k/\k.length=l[i].ks.length/\(∀q∈l[i].ks,0<=q/\q<i)/\(k=[3]->eK l l[i]%2=1/\eK (l.take i) l[i]=eK l l[i]):=by
 obtain⟨n,D,h2,u,g⟩:=h;obtain rfl:l[i]=n:=by rw [AA hi]at D;exact AX D
 rw [AP K]at u g;have p: ∀q∈l[i].ks,0<=q/\q<i:=fun q p=>by
  have:=rW (CA.1 u q p);rw [bR,AW]at this;omega
 refine⟨?_,by rw [g];simp,p,fun e=>?_⟩
 ·unfold cP
  rw [if_pos u,g]
 ·rw [e]at g
  cases hk:l[i].ks with
  |nil=>rw [hk]at g;cases g
  |cons q r=>
   rw [hk,CF,BS]at g;have L:=p q (by rw [hk];exact BJ);have G:=Km g.1.symm;have z:eK (l.take i) l[i]=((l.take i).getD q.toNat default).ks.length:=by unfold eK;rw [hk];rfl
   have A:eK l l[i]=(l.getD q.toNat default).ks.length:=by unfold eK;rw [hk];rfl
   rw [xG IM]at G z;exact⟨by rw [A];exact G,by rw [z,A]⟩
theorem d1G{k:Y12}(h:(k.all fun x=>decide (x=1))=true):k=List.replicate k.length 1:=List.eq_replicate_iff.2 ⟨rfl,fun x g=>by simpa using CA.1 h x g⟩
theorem b4P{k:Y12}{m:Nat}(G:k.length=2*m+1)(D:1<=m)(h2:m<=16)(i:k[0]?=some 2)(u:(((k.drop 1).take m).all fun x=>decide (x=1))=true)(j:k[m+1]?=some 2)(z:((k.drop (m+2)).all fun x=>decide (x=1))=true):qS k=true:=by
 cases k with
 |nil=>cases i
 |cons a t=>
  simp only [AK]at G;rw [DC,AC]at i;rw [DB]at j;rw [EA,CZ]at u;rw [show m+2=(m+1)+1 by omega,EA]at z;have g:m<t.length:=IM;have hd:t.drop m=2::t.drop (m+1):=by
   rw [List.drop_eq_getElem_cons g];rw [AA g,AC]at j;rw [j]
  have l:=d1G u;have p:=d1G z;rw [AW,FJ IM]at l;rw [CD,show t.length- (m+1)=m-1 by omega]at p;have A:t=List.replicate m 1++2::List.replicate (m-1) 1:=by
   rw [<-l,<-p,<-hd,DT]
  rw [A,i];exact Rk D h2
theorem c3A{k:Y12}(h:qS k=true):k[0]?=some 2/\(((k.drop 1).take (k.length/2)).all fun x=>decide (x=1))=true/\k[k.length/2+1]?=some 2/\((k.drop (k.length/2+2)).all fun x=>decide (x=1))=true:=by
 obtain⟨i,h2,j,g⟩:=nO h;generalize k.length/2=m at g;subst g;unfold Ym
 refine⟨rfl,?_,?_,?_⟩
 ·simp
 ·simp
 ·rw [EA,HJ];simp
theorem Ec{e g:Nat}{op im:Int}{k:Y12}(h:k=[3]->e=g):bC e op im k=bC g op im k:=by
 unfold bC
 by_cases c:k=[3]
 ·rw [h c]
 ·simp [c]
theorem sO.lst{l:Y15}{i j:Nat}{k:Y12}(h:sO l i j k)(hi:i<l.length)(z:l[i].ks.length<=j):
  cP (l.take i) (aK (l.take i)) l[i]=bC (eK l l[i]) l[i].op l[i].im k/\k.length=l[i].ks.length/\(∀q∈l[i].ks,0<=q/\q<l.length)/\(k=[3]->eK l l[i]%2=1):=by
 obtain⟨p,h2,u,g⟩:=h.last hi z;exact⟨p.trans (Ec fun e=>(g e).2),h2,fun q A=>by have:=u q A;omega,fun e=>(g e).1⟩
theorem Kn{e:Nat}{op im:Int}{k:Y12}(g: ∀x∈k,1<=x/\x<=3):0<=bC e op im k/\bC e op im k<=3:=by
 unfold bC
 repeat' split
 all_goals first|omega|exact Xa g
theorem Ko{p:Y15}{n:Nd}(h: ∀x∈K,0<=x/\x<=3):0<=cP p K n/\cP p K n<=3:=by
 unfold cP
 split
 ·rename_i ha;refine Kn fun x j=>?_
  obtain⟨q,i,rfl⟩:=EI.1 j;obtain⟨u,z,l⟩:=rW (CA.1 ha q i);have g:q.toNat<K.length:=IM;have e:K.getD q.toNat 0=K[q.toNat]:=by rw [AN,AA g];rfl
  have:=h _ (AG g);rw [e]at l⊢;omega
 ·omega
theorem D1: ∀(l p:Y15)(g:Y12),(∀x∈g,0<=x/\x<=3)-> ∀x∈fJ p g l,0<=x/\x<=3
 | [],p,g,h=>h
 |n::r,p,g,h=>by
  rw [fJ];refine D1 r _ _ fun x i=>?_
  rcases CB.1 i with i|i
  ·exact h x i
  ·rw [BO.1 i];exact Ko h
theorem Kp(l:Y15): ∀x∈aK l,0<=x/\x<=3:=D1 l [] [] (fun x h=>by cases h)
theorem sO.rng{l:Y15}{i j:Nat}{k:Y12}(h:sO l i j k): ∀x∈k,1<=x/\x<=3:=by
 obtain⟨n,G,h2,u,z⟩:=h;intro x p;rw [z]at p;obtain⟨q,A,rfl⟩:=EI.1 p;obtain⟨K,L,D⟩:=rW (CA.1 u q A);have g:q.toNat< (aK (l.take i)).length:=IM;have e:(aK (l.take i)).getD q.toNat 0=(aK (l.take i))[q.toNat]:=by rw [AN,AA g];rfl
 have:=Kp _ _ (AG g);rw [e]at D⊢;omega
theorem Xc{l:Y15}{q:Nat}(h:(aK l).getD q 0=3):q<l.length/\3<=(l.getD q default).ks.length/\(l.getD q default).ks.length<=33:=by
 rcases BC q l.length with c|c
 ·have g:=AA c;rw [nP g]at h;unfold cP at h;split at h
  ·have:=nO (Eb h).2;rw [BF]at this;rw [AN,g];exact⟨c,this.2.1,this.2.2.1⟩
  ·omega
 ·rw [AN,BG (by rw [bR];exact c)]at h
  cases h
def D2(op:Int)(s:Y12):Bool:=if op=31 then qS s else if op=25 then decide (s=[3])else tD op s
def uY(e:Nat)(op im:Int):Bool:=if op=25 then decide (0<=im/\2*im+3<=e)else dY op im
def zA(op im:Int)(k:Y12):Int:=if op=31 then 3 else if op=25 then(if im=0 then 2 else 1)else Ki op im k
theorem Xd{e:Nat}{op im:Int}{k:Y12}(g:op≠30)(j: ∀x∈k,1<=x/\x<=3)(i:k=[3]->e<=33):bC e op im k=if D2 op k=true/\uY e op im=true then zA op im k else 0:=by
 unfold bC D2 uY zA
 by_cases o31:op=31
 ·subst o31;simp
 by_cases o25:op=25
 ·subst o25;simp only [show¬ ((25:Int)=31) by decide,show¬ ((25:Int)=30) by decide,if_false,if_true]
  by_cases c:k=[3]
  ·have:=i c
   by_cases d:0<=im/\2*im+3<=(e:Int)
   ·rw [if_pos (show k=[3]/\0<=im/\im<=15/\2*im+3<=(e:Int)from⟨c,d.1,IM,d.2⟩),if_pos (show decide (k=[3])=true/\decide (0<=im/\2*im+3<=(e:Int))=true from⟨by simp [c],by simp [d]⟩)]
   ·rw [if_neg (fun q=>d ⟨q.2.1,q.2.2.2⟩),if_neg (fun q=>d (by simpa using q.2))]
  ·rw [if_neg (fun q=>c q.1),if_neg (fun q=>c (by simpa using q.1))]
 rw [if_neg o31,if_neg g,if_neg o25,if_neg o31,if_neg o25,if_neg o25,if_neg o31,if_neg o25];exact a0N ⟨o25,g,o31⟩ j
def pP(op:Int)(s:Y12):Bool:=if op=30 then qT s else D2 op s
def Kq(op im:Int)(k:Y12):Int:=if op=30 then 2 else zA op im k
theorem Rl{op im:Int}{k:Y12}(h:op≠30):Kq op im k=zA op im k:=if_neg h
theorem Kr{e:Nat}{op im:Int}{k:Y12}(i: ∀x∈k,1<=x/\x<=3)(g:k=[3]->e<=33):bC e op im k=if pP op k=true/\uY e op im=true then Kq op im k else 0:=by
 by_cases h30:op=30
 ·subst h30;unfold bC pP uY Kq
  simp
 ·unfold pP Kq
  rw [if_neg h30,if_neg h30];exact Xd h30 i g
theorem sO.finH{l:Y15}{i j:Nat}{k:Y12}(h:sO l i j k)(hi:i<l.length)(A:l[i].ks.length<=j):
  cP (l.take i) (aK (l.take i)) l[i]=(if pP l[i].op k=true/\uY (eK l l[i]) l[i].op l[i].im=true then Kq l[i].op l[i].im k else 0)/\k.length=l[i].ks.length/\(pP l[i].op k=true->l[i].op=25-> ∃q:Int,l[i].ks=[q]/\(0<=q/\q<l.length)/\3<=(l.getD q.toNat default).ks.length/\(l.getD q.toNat default).ks.length<=33):=by
 have V:=h.rng;obtain⟨K,h2,L,X⟩:=h.lst hi A;have p:k=[3]-> ∃q:Int,l[i].ks=[q]/\(0<=q/\q<l.length)/\3<=(l.getD q.toNat default).ks.length/\(l.getD q.toNat default).ks.length<=33:=fun e=>by
  obtain⟨n,u,D,G,g⟩:=h;obtain rfl:l[i]=n:=by rw [AA hi]at u;exact AX u
  rw [AP A,e]at g;have T:l[i].ks.length=1:=by rw [<-h2,e];rfl
  match hks:l[i].ks,T with
  | [q],_=>
   rw [hks,CF,BS]at g;have O:=L q (by rw [hks];exact BJ);have z:=Xc g.1.symm;rw [xG (by have:=z.1;rw [AW]at this;omega)]at z;exact⟨q,rfl,O,z.2⟩
 refine⟨?_,h2,fun v o=>?_⟩
 ·rw [K];refine Kr V fun e=>?_
  obtain⟨q,u,D,G,g⟩:=p e;show(l.getD (l[i].ks.getD 0 0).toNat default).ks.length<=33;rw [u];exact g
 ·unfold pP D2 at v;rw [o,if_neg IN,if_neg IN,if_pos rfl,decide_eq_true_eq]at v;exact p v
def SPH(h:Heap)(id:Nat)(l:Y15)(i:Nat)(g:Y12):Prop:=(i<l.length/\(∀x∈l,x.ks.length<=1000000/\True)/\l.length<=1000000)/\h.get id= .cells (g.map (IV.int .i64))/\id<h.next/\g.length=l.length/\g.take i=aK (l.take i)
end Go.M10
end
end
