/-
  Texts of this proof, one after the other.
  Conditions: none.
-/
import Derived.Test.YtkonebkblgemkaaGreatW10
set_option linter.unusedVariables false
set_option linter.unusedSimpArgs false
set_option maxRecDepth 100000
set_option maxHeartbeats 4000000
noncomputable section
variable{i j m b:Nat}{x y z u v:Int}{h g:Go.Pv.Heap}{c d l:List Go.Pv.IV}{A B C:List Go.M15.Nd}{K L:Y12}{s t:Go.Pv.IV}{F:List Go.M10.E}{D:Go.Pv.Meta}{V W:List Go.Value}{T U:Go.TypeId}{o:Bool}{X Y:Go.Value}{r:Y11}{G:Go.M10.BSt}{O:Go.Oper}{N:Y10}{H:Array Go.Value}
section
namespace Go.Proofs.YtkonebkblgemkaaGreat
open Go.Pv Go.M15 Go.M10
def bAI(id g i:Nat)(l:List S)(s:BSt)(h:Heap):Inv':=dL (Nat×Heap×Y13) (λx=>[(0,.v (.ptr id 0)),(1,.v (.hslice g 0 i 1)),(2,.v (.vslice none 0 l.length 17 (bI l))),(6,.v (.int .i64 (x.1:Int)))]) (λ_=>[]) (λx=>x.2.1) (λx=>x.1<=l.length/\AsP x.2.1 id g s x.2.2/\FV g g h x.2.1) (λx=>l.length-x.1)
def bAC(id g i:Nat)(l:List S)(s:BSt)(h:Heap):Inv':=dL (Nat×Heap×Y13) (λx=>[(0,.v (.ptr id 0)),(1,.v (.hslice g 0 i 1)),(2,.v (.vslice none 0 l.length 17 (bI l))),(6,.v (.int .i64 (x.1:Int)))]) (λ_=>[]) (λx=>x.2.1) (λx=>x.1<l.length/\AsP x.2.1 id g s x.2.2/\FV g g h x.2.1) (λx=>l.length-x.1)
def b8A(d:Nat)(xs:Y14)(h:Heap)(K:KT):Prop:=match xs with
 | [.ptr id 0,.hslice jn 0 nv 1,.vslice none 0 m 17 c]=> ∃(l:List S)(s:BSt)(i:Y13),(m=l.length/\c=bI l/\nv=(cK s.f).length)/\AsP h id jn s i/\(Ss.cnt l<d/\Ss.cnt l<=1000)/\∀(g:Y13)(h2:Heap),AsP h2 id jn s g->FV jn jn h h2->K (.tuple []) h2
 |_=>False
def a9R(l:List S):TV:=TV.v (.vslice none 0 l.length 17 (bI l))
def Ih(id:Nat)(m:Nat)(r:Nat)(l:List S)(g:Int)(i:Nat×Heap×Y13)(j:Prop):Prop:=some (TV.v (.ptr id 0))=some (TV.v (.ptr id 0))/\some (TV.v (.hslice m 0 r 1))=some (TV.v (.hslice m 0 r 1))/\some (a9R l)=some (a9R l)/\tI g=tI (i.1:Int)/\j
def a5I(id:Nat)(i:Nat)(s:BSt)(h:Heap)(g:Nat×Heap×Y13):Prop:=AsP g.2.1 id i s g.2.2/\FV i i h g.2.1
def vD(g:Int)(i:Nat):Bool:=decide (0<=g) &&decide (g< (i:Int))
def a5E(g:Int)(i:Nat):Bool:=vD g i
def gE(i:Nat)(g:Y14)(j:Y14)(l:Nat):IObj:=IObj.cells (List.take i g++j++List.drop l g)
def a5D(l:List S)(x:Nat×Heap×Y13)(id:Nat)(D:Nat)(z:Nat)(s:BSt)(h:Heap)(M:Nat)(u:Int)(y:Prop):=aN .i64 (bI l) ((x.1:Int).toNat*17+0) λr=>aK (r==u) (aF (a5E (x.1:Int) l.length) (dU (bI l) ((x.1:Int).toNat*17+1) λA=> ∃(j:BSt),BH x.2.1 id j/\∀(g:Nat),g< (cK (BSt.f j)).length->aF (a5E (↑g
 :Int) D) (aT x.2.1 z λm=>aF (Nat.ble ((0:Nat)+(g:Int).toNat*1+1) m.length) (∃(i:Nat×Heap×Y13),Ih id z D l (x.1:Int) i (x.2.1.set z (gE ((0:Nat)+(g:Int).toNat*1) m [IV.bool true] ((0:Nat)+Int.toNat
 (g:Int)*1+1))=i.2.1/\(i.1<l.length/\a5I id z s h i)/\l.length-i.1<=M))))) y
def oU(G:Nat×Heap×Y13)(l:List S)(T:Nat)(id:Nat)(K:Nat)(R:Nat)(A:Nat)(u:Heap)(D:Y13->Y13->Heap->Prop):Prop:=aF (a5E (G.1:Int) l.length) (bM 17 (bI l) ((G.1:Int).toNat*17+A) λL O y z=> ∃(g:List M10.S)(i:BSt)(m:Y13),(y=g.length/\z=bI g/\T=(cK (BSt.f i)).length)/\AsP u id K i m
 /\(Ss.cnt g<R/\Ss.cnt g<=1000)/\∀(r:Y13)(j:Heap),AsP j id K i r->FV K K u j->D m r j)
def Y7(y:Nat×Heap×Y13)(l:List S)(D:Nat)(id:Nat)(A:Nat)(z:Nat)(m:Nat)(r:Heap)(u:Y13->Y13->Heap->Prop):Prop:=oU y l D id A z m r (λg i j=>u g i j)
theorem f7D(y:Nat)(id i m:Nat)(l:List S)(s:BSt)(h:Heap)(Q:KT):dF (aU (aV 221 (b8A y) d7Q)) env 221 cC (mJ 2 (bAI id i m l s h)) (mJ 1000006 (bAC id i m l s h)) [.ptr id 0,.hslice i 0 m 1,.vslice none 0 l.length 17 (bI l)] h Q=(
 (∃(x:Nat×Heap×Y13),Ih id i m l 0 x (h=x.2.1/\(x.1<=l.length/\a5I id i s h x)/\True))/\∀(x:Nat×Heap×Y13)(b:FF),x.1<=l.length/\AsP x.2.1 id i s x.2.2/\FV i i h (x.2.1)->aK (decide ((x.1:Int)< (l.length:Int))) (∃(M:Nat),aF (a5E (x.1:Int) l.length) (a5D l x id m i s h M 1 (aF (a5E (x.1:Int) l.length) (a5D l x id m i s h M 6 (∃(g:Nat×Heap×Y13),Ih id i m l (x.1:Int) g (x.2.1=g.2.1/\(g.1<l.length/\a5I id i s h g)/\l.length-g.1<=M)))))/\∀(g:Nat×Heap×Y13)(b:FF),g.1<l.length/\AsP g.2.1 id i s g.2.2/\FV i i h g.2.1->l.length-g.1<=M->Y7 g l m id i y 15 g.2.1 (λz u h2=>oU g l m id i y 16 h2 (λz u r=> ∃(j:Nat×Heap×Y13),Ih id i m l (wW ((g.1:Int)+1)) j (r=j.2.1/\(j.1<=l.length/\a5I id i s h j)/\l.length-j.1<l.length-x.1)))) (Q (.tuple []) x.2.1)):=by kernel_rfl
theorem f5D: ∀d xs h Q,b8A d xs h Q->aM env 221 xs h Q:=by
 intro d
 induction d with
 |zero=>
  intro xs h Q hk;unfold b8A at hk;split at hk
  .rename_i id jn nv m c;obtain⟨l,s,V,⟨rfl,rfl,u⟩,X,⟨hd,hc⟩,hk⟩:=hk;omega
  .exact hk.elim
 |succ dd ih=>
  intro xs h Q hk;unfold b8A at hk;split at hk
  .rename_i id jn nv m c;obtain⟨l,s,V,⟨rfl,rfl,u⟩,X,⟨hd,hc⟩,hk⟩:=hk;refine aL (aE ih (d5B)) (f7D dd id jn nv l s h Q) ?_;delta a9R Ih a5I vD a5E gE a5D oU Y7 tI wW; (try dsimp -iota -proj only);have lc:=Ss.len_cnt l;refine⟨⟨(0,h,V),KD,KD,KD,KD,KD,⟨AR _,X,FV.refl⟩,KD⟩,?_⟩;rintro⟨i,g,b⟩ _ ⟨Y,r,hf⟩;dsimp only at Y r hf⊢;refine cV (λc=>?_) (λc=>hk b g r hf);have j:i<l.length:=JZ;refine⟨l.length-i,?_,?_⟩
   .obtain⟨k,nm,to,n,ak,an,A,D,z,vk,vn,R,T,O,y,L,G,e⟩:=d7B l[i];refine aP JZ (e0W j e KB (bx ?a (aP JZ (e0W j e KB (bx ?a ⟨(i,g,b),KD,KD,KD,KD,KD,⟨j,r,hf⟩,AF _⟩)))));exact aP JZ (f4P j e KB ⟨s,r.bh,λq Z=>aP JZ (aC r.bg (aA (Ms Z (by rw [AX,r.bl])) ⟨(i,_,b.set q true),KD,KD,KD,KD,rfl,⟨j,r.set hf (by rw [r.bl];exact Z) rfl⟩,AF _⟩))⟩)
   .clear c j r hf Y;rintro⟨K,g,b⟩ _ ⟨j,r,hf⟩ hM;dsimp only at j r hf hM⊢;obtain⟨k,nm,to,n,ak,an,A,D,z,vk,vn,R,T,O,y,L,G,e⟩:=d7B l[K];have h1:=Ss.cnt_mem (AG j);have e1:l[K].cnt=1+Ss.cnt L+Ss.cnt G:=by rw [e];rfl
    exact aP JZ (a7G j e KB ⟨L,s,b,⟨rfl,rfl,u⟩,r,⟨JZ,JZ⟩,λb2 g2 a2 f2=>aP JZ (a7H j e KB ⟨G,s,b2,⟨rfl,rfl,u⟩,a2,⟨JZ,JZ⟩,λb3 g3 a3 f3=>⟨(K+1,g3,b3),KD,KD,KD,(by(try dsimp only);rw [AA _ JZ];rfl),KD,⟨j,a3,(hf.trans f2 (.inl rfl)).trans f3 (.inl rfl)⟩,(by(try dsimp only);omega)⟩⟩)⟩)
  .exact hk.elim
def d7N:=aV 221 (λxs h K=> ∃d,b8A d xs h K) d7Q
theorem d4Y:aS env d7N:=aE (λxs h Q hk=>hk.elim λd hk=>f5D d xs h Q hk) (d5B)
def d9N(xs:Y14)(h:Heap)(K:KT):Prop:=match xs with
 | [.agg [.vslice none 0 na 2 ac,.vslice none 0 nf 9 fc],.str s]=>(na=2/\nf=2)/\sC ac fc/\∀r:Int,bE r->K (.int .i64 r) h
 |_=>False
theorem f7H(z A:Int)(u:List S)(D G:Int)(j:Y11)(l:Int)(g:List E)(y:List S)(K L:Int)(m:Y11)(r:Int)(i:List E)(s:Y11)(h:Heap)(Q:KT):dF (aU d7N) env 202 (λk=>if k=3 then 3 else 0) bD bD [.agg [.vslice none 0 2 2 [.str [97],.int .i64 z,.str [98],.int .i64 A],.vslice none 0 2 9 [.str [102],.vslice none 1 2 1 [.str [120],.str [121]],.vslice none 1 2 1 [.str [105],.str [106]],.vslice none 0 u.length 17 (bI u),.int .i64 D,.int .i64 G,.str j,.int .i64 l,.vslice none 0 g.length 5 (bP g),.str [103],.vslice none 1 1 1 [.str [110]],.vslice none 1 1 1 [.str [105]],.vslice none 0 y.length 17 (bI y),.int .i64 K,.int .i64 L,.str m,.int .i64 r,.vslice none 0 i.length 5 (bP i)]],.str s] h Q=(
 aF (aQ [IV.agg [.vslice none 0 2 2 [IV.str [97],iI z,IV.str [98],iI A],IV.vslice none 0 2 9 [IV.str [102],IV.vslice none 1 2 1 [IV.str [120],IV.str [121]],IV.vslice none 1 2 1 [IV.str [105],IV.str [106]],IV.vslice none 0 u.length 17 (bI u),iI D,iI G,IV.str j,iI l,IV.vslice none 0 (g.length) 5 (bP g),IV.str [103],IV.vslice none 1 1 1 [IV.str [110]],IV.vslice none 1 1 1 [IV.str [105]],IV.vslice none 0 y.length 17 (bI y),iI K,iI L,IV.str m,iI r,IV.vslice none 0 i.length 5 (bP i)]],IV.str s]) (aK ([102]==s) (Q (.int .i64 0) h) (aK ([103]==s) (Q (.int .i64 1) h) (Q (.int .i64 (-1:Int)) h)))):=by kernel_rfl
theorem f5P: ∀xs h Q,d9N xs h Q->aM env 202 xs h Q:=by
 intro xs h Q hk;unfold d9N at hk;split at hk
 .rename_i T O V R s;obtain⟨⟨rfl,rfl⟩,⟨z,A,u,⟨D,G,i,j,g⟩,y,⟨K,L,m,r,l⟩,rfl,rfl⟩,hk⟩:=hk;refine aL (d4Y) (f7H z A u D G i j g y K L m r l s h Q) ?_;delta iI;refine aA (by simp only [aQ,aY,bF,bV,bK,cI,AN]) ?_;exact bx (hk _ KA) (bx (hk _ KA) (hk _ KA))
 .exact hk.elim
def b0O:=aV 202 d9N d7N
theorem d5C:aS env b0O:=aE f5P (d4Y)
def bsI(id:Nat)(l:List S)(s:BSt)(h:Heap):Inv':=dL (Nat×Heap×BSt) (λx=>[(0,.v (.ptr id 0)),(1,.v (.vslice none 0 l.length 17 (bI l))),(4,.v (.int .i64 (x.1:Int)))]) (λ_=>[]) (λx=>x.2.1) (λx=>x.1<=l.length/\BW h id s x.2.1 x.2.2 (Ss.cost (l.take x.1))) (λx=>l.length-x.1)
def ifI(id:Nat)(k:Int)(nm G:Y11)(n:Int)(y z:Int)(j:Y11)(l:Int)(i:List E)(K L:Int)(r:Y11)(u:Int)(m:List E)(g:List E)(D A:List S)(s:BSt)(h:Heap):Inv':=dL (Nat×Heap×BSt×Int×Nat×Int) (λx=>[(0,.v (.ptr id 0)),(12,.v (.int .i64 x.2.2.2.1)),(15,.v (.hslice x.2.2.2.2.1 0 (cK s.f).length 1)),(16,.v (.int .i64 x.2.2.2.2.2)),(17,.v (.int .i64 (x.1:Int)))]) (λ_=>[]) (λx=>x.2.1) (λx=>IfP h id s x.2.1 x.2.2.1 x.2.2.2.2.1 x.1 (.mk k nm G n (.mk y z j l i) (.mk K L r u m) g D A)) (λx=>(cK s.f).length-x.1)
def caI(id:Nat)(k:Int)(nm K:Y11)(n:Int)(D G:Int)(m:Y11)(r:Int)(i:List E)(L O:Int)(u:Y11)(y:Int)(j:List E)(g:List E)(A z:List S)(s:BSt)(h:Heap):Inv':=dL (Nat×Heap×BSt×IV×Y12) (λx=>[(0,.v (.ptr id 0)),(3,.l 3 0),(10,.v x.2.2.2.1),(11,.v (.int .i64 (x.1:Int)))]) (λ_=>[(3,[.int .i64 k,.str nm,.str K,.int .i64 n,.int .i64 D,.int .i64 G,.str m,.int .i64 r,.vslice none 0 i.length 5 (bP i),.int .i64 L,.int .i64 O,.str u,.int .i64 y,.vslice none 0 j.length 5 (bP j),.vslice none 0 g.length 5 (bP g),.vslice none 0 A.length 17 (bI A),.vslice none 0 z.length 17 (bI z)])]) (λx=>x.2.1) (λx=>CaP h id s x.2.1 x.2.2.1 x.2.2.2.1 x.2.2.2.2 x.1 g) (λx=>g.length-x.1)
def caC(id:Nat)(k:Int)(nm K:Y11)(n:Int)(D G:Int)(m:Y11)(r:Int)(i:List E)(L O:Int)(u:Y11)(y:Int)(j:List E)(g:List E)(A z:List S)(s:BSt)(h:Heap):Inv':=dL (Y10×Nat×Heap×BSt×Y12) (λx=>[(0,.v (.ptr id 0)),(3,.l 3 0),(10,.v (.vslice x.1 x.2.1 x.2.2.2.2.length 1 (x.2.2.2.2.map (IV.int .i64))))]) (λ_=>[(3,[.int .i64 k,.str nm,.str K,.int .i64 n,.int .i64 D,.int .i64 G,.str m,.int .i64 r,.vslice none 0 i.length 5 (bP i),.int .i64 L,.int .i64 O,.str u,.int .i64 y,.vslice none 0 j.length 5 (bP j),.vslice none 0 g.length 5 (bP g),.vslice none 0 A.length 17 (bI A),.vslice none 0 z.length 17 (bI z)])]) (λx=>x.2.2.1) (λx=>(BW h id s x.2.2.1 x.2.2.2.1 (Es.cost g)/\x.2.2.2.1.iv=s.iv)/\(1<=x.2.2.2.2.length/\x.2.2.2.2.length<=2)) (λx=>0)
def f4T(id:Nat)(k:Int)(nm T:Y11)(n:Int)(O R:Int)(z:Y11)(A:Int)(r:List E)(K L:Int)(u:Y11)(y:Int)(m:List E)(j:List E)(G D:List S)(s:BSt)(h:Heap):Inv':=(dL (LoS) (λx=>[(0,.v (.ptr id 0)),(4,.v (.int .i64 s.lo)),(5,.v (.int .i64 x.c)),(3,.l 3 0),(6,.v (.hslice x.jn 0 (cK s.f).length 1)),(7,.v x.W),(8,.v (.int .i64 (x.i:Int)))]) (λ_=>[(3,[.int .i64 k,.str nm,.str T,.int .i64 n,.int .i64 O,.int .i64 R,.str z,.int .i64 A,.vslice none 0 r.length 5 (bP r),.int .i64 K,.int .i64 L,.str u,.int .i64 y,.vslice none 0 m.length 5 (bP m),.vslice none 0 j.length 5 (bP j),.vslice none 0 G.length 17 (bI G),.vslice none 0 D.length 17 (bI D)])]) (λx=>x.g) (λx=>LoP1 h id s x x.i (.mk K L u y m)) (λx=>(cK s.f).length-x.i))
def f4U(id:Nat)(k:Int)(nm T:Y11)(n:Int)(O R:Int)(z:Y11)(A:Int)(r:List E)(K L:Int)(u:Y11)(y:Int)(m:List E)(j:List E)(G D:List S)(s:BSt)(h:Heap):Inv':= .or (dL (LoS) (λx=>[(0,.v (.ptr id 0)),(4,.v (.int .i64 s.lo)),(5,.v (.int .i64 x.c)),(3,.l 3 0),(9,.v (.hslice x.jo 0 (cK s.f).length 1)),(10,.v (.int .i64 x.a)),(11,.v x.KS),(12,.v (.int .i64 (x.i:Int))),(7,.v .nilslice)]) (λ_=>[(3,[.int .i64 k,.str nm,.str T,.int .i64 n,.int .i64 O,.int .i64 R,.str z,.int .i64 A,.vslice none 0 r.length 5 (bP r),.int .i64 K,.int .i64 L,.str u,.int .i64 y,.vslice none 0 m.length 5 (bP m),.vslice none 0 j.length 5 (bP j),.vslice none 0 G.length 17 (bI G),.vslice none 0 D.length 17 (bI D)])]) (λx=>x.g) (λx=>x.w=[]/\LoP2 h id s x x.i (.mk K L u y m)) (λx=>x.w.length-x.i))
 (dL (LoS) (λx=>[(0,.v (.ptr id 0)),(4,.v (.int .i64 s.lo)),(5,.v (.int .i64 x.c)),(3,.l 3 0),(9,.v (.hslice x.jo 0 (cK s.f).length 1)),(10,.v (.int .i64 x.a)),(11,.v x.KS),(12,.v (.int .i64 (x.i:Int))),(7,.v (.vslice x.iW x.eW x.w.length 1 (x.w.map (IV.int .i64))))]) (λ_=>[(3,[.int .i64 k,.str nm,.str T,.int .i64 n,.int .i64 O,.int .i64 R,.str z,.int .i64 A,.vslice none 0 r.length 5 (bP r),.int .i64 K,.int .i64 L,.str u,.int .i64 y,.vslice none 0 m.length 5 (bP m),.vslice none 0 j.length 5 (bP j),.vslice none 0 G.length 17 (bI G),.vslice none 0 D.length 17 (bI D)])]) (λx=>x.g) (λx=>LoP2 h id s x x.i (.mk K L u y m)) (λx=>x.w.length-x.i))
def f4V(id:Nat)(k:Int)(nm L:Y11)(n:Int)(A D:Int)(m:Y11)(r:Int)(l:List E)(O R:Int)(y:Y11)(z:Int)(u:List E)(j:List E)(K G:List S)(s:BSt)(h:Heap):Inv':= .or (dL (LoS) (λx=>[(0,.v (.ptr id 0)),(4,.v (.int .i64 s.lo)),(5,.v (.int .i64 x.c)),(9,.v (.hslice x.jo 0 (cK s.f).length 1)),(10,.v (.int .i64 x.a)),(11,.v (.vslice (some x.jk) x.ks.length x.ks.length 1 (x.ks.map (IV.int .i64)))),(14,.v (.int .i64 (x.i:Int))),(7,.v .nilslice)]) (λ_=>[]) (λx=>x.g) (λx=>x.w=[]/\LoP3 h id s x x.i (.mk k nm L n (.mk A D m r l) (.mk O R y z u) j K G)) (λx=>x.w.length-x.i))
 (dL (LoS) (λx=>[(0,.v (.ptr id 0)),(4,.v (.int .i64 s.lo)),(5,.v (.int .i64 x.c)),(9,.v (.hslice x.jo 0 (cK s.f).length 1)),(10,.v (.int .i64 x.a)),(11,.v (.vslice (some x.jk) x.ks.length x.ks.length 1 (x.ks.map (IV.int .i64)))),(14,.v (.int .i64 (x.i:Int))),(7,.v (.vslice x.iW x.eW x.w.length 1 (x.w.map (IV.int .i64))))]) (λ_=>[]) (λx=>x.g) (λx=>LoP3 h id s x x.i (.mk k nm L n (.mk A D m r l) (.mk O R y z u) j K G)) (λx=>x.w.length-x.i))
def f4W(id:Nat)(k:Int)(nm L:Y11)(n:Int)(A D:Int)(m:Y11)(r:Int)(l:List E)(O R:Int)(y:Y11)(z:Int)(u:List E)(j:List E)(K G:List S)(s:BSt)(h:Heap):Inv':= .or (dL (LoS) (λx=>[(0,.v (.ptr id 0)),(5,.v (.int .i64 x.c)),(9,.v (.hslice x.jo 0 (cK s.f).length 1)),(15,.v (.int .i64 x.lp)),(17,.v (.int .i64 (x.i:Int))),(7,.v .nilslice)]) (λ_=>[]) (λx=>x.g) (λx=>x.w=[]/\LoP4 h id s x x.i (.mk k nm L n (.mk A D m r l) (.mk O R y z u) j K G)) (λx=>x.w.length-x.i))
 (dL (LoS) (λx=>[(0,.v (.ptr id 0)),(5,.v (.int .i64 x.c)),(9,.v (.hslice x.jo 0 (cK s.f).length 1)),(15,.v (.int .i64 x.lp)),(17,.v (.int .i64 (x.i:Int))),(7,.v (.vslice x.iW x.eW x.w.length 1 (x.w.map (IV.int .i64))))]) (λ_=>[]) (λx=>x.g) (λx=>LoP4 h id s x x.i (.mk k nm L n (.mk A D m r l) (.mk O R y z u) j K G)) (λx=>x.w.length-x.i))
def f4R(id:Nat)(k:Int)(nm R:Y11)(n:Int)(L O:Int)(y:Y11)(z:Int)(m:List E)(G K:Int)(r:Y11)(u:Int)(j:List E)(i:List E)(D A:List S)(s:BSt)(h:Heap):Inv':=(dL (LoS) (λx=>[(0,.v (.ptr id 0)),(4,.v (.int .i64 s.lo)),(5,.v (.int .i64 x.c)),(3,.l 3 0),(7,.v x.W),(9,.v (.hslice x.jo 0 (cK s.f).length 1)),(10,.v (.int .i64 x.a)),(11,.v x.KS)]) (λ_=>[(3,[.int .i64 k,.str nm,.str R,.int .i64 n,.int .i64 L,.int .i64 O,.str y,.int .i64 z,.vslice none 0 m.length 5 (bP m),.int .i64 G,.int .i64 K,.str r,.int .i64 u,.vslice none 0 j.length 5 (bP j),.vslice none 0 i.length 5 (bP i),.vslice none 0 D.length 17 (bI D),.vslice none 0 A.length 17 (bI A)])]) (λx=>x.g) (λx=>WF x/\LoP2 h id s x x.w.length (.mk G K r u j)) (λx=>0))
def f4S(id:Nat)(k:Int)(nm K:Y11)(n:Int)(z A:Int)(l:Y11)(m:Int)(j:List E)(L O:Int)(u:Y11)(y:Int)(r:List E)(i:List E)(G D:List S)(s:BSt)(h:Heap):Inv':=(dL (LoS) (λx=>[(0,.v (.ptr id 0)),(4,.v (.int .i64 s.lo)),(5,.v (.int .i64 x.c)),(7,.v x.W),(9,.v (.hslice x.jo 0 (cK s.f).length 1)),(10,.v (.int .i64 x.a)),(11,.v (.vslice (some x.jk) x.ks.length x.ks.length 1 (x.ks.map (IV.int .i64))))]) (λ_=>[]) (λx=>x.g) (λx=>WF x/\LoP3 h id s x x.w.length (.mk k nm K n (.mk z A l m j) (.mk L O u y r) i G D)) (λx=>0))
def Vv(d:Nat)(xs:Y14)(h:Heap)(K:KT):Prop:=match xs with
 | [.ptr id 0,.vslice none 0 m 17 c]=> ∃(l:List S)(s:BSt),(m=l.length/\c=bI l)/\(StPre h id s l/\3*Ss.cnt l+2<d)/\∀(g:BSt)(h2:Heap),BW h id s h2 g (Ss.cost l)->K (.tuple []) h2
 |_=>False
def Vw(d:Nat)(xs:Y14)(h:Heap)(K:KT):Prop:=match xs with
 | [.ptr id 0,.agg [.int .i64 k,.str nm,.str to,.int .i64 n,.int .i64 ak,.int .i64 an,.str anm,.int .i64 aop,.vslice none 0 am 5 ac,.int .i64 vk,.int .i64 vn,.str vnm,.int .i64 vop,.vslice none 0 vm 5 vc,.vslice none 0 m 5 c,.vslice none 0 mt 17 ct,.vslice none 0 ml 17 cl]]=> ∃(i j g:List E)(r l:List S)(s:BSt),(am=i.length/\ac=bP i/\vm=j.length/\vc=bP j/\m=g.length/\c=bP g/\mt=r.length/\ct=bI r/\ml=l.length/\cl=bI l)/\(StPre h id s [(.mk k nm to n (.mk ak an anm aop i) (.mk vk vn vnm vop j) g r l)]/\3*S.cnt (.mk k nm to n (.mk ak an anm aop i) (.mk vk vn vnm vop j) g r l)+1<d)/\∀(u:BSt)(h2:Heap),BW h id s h2 u (S.cost (.mk k nm to n (.mk ak an anm aop i) (.mk vk vn vnm vop j) g r l))->K (.tuple []) h2
 |_=>False
def Vu(d:Nat)(xs:Y14)(h:Heap)(K:KT):Prop:=match xs with
 | [.ptr id 0,.agg [.int .i64 k,.str nm,.str to,.int .i64 n,.int .i64 ak,.int .i64 an,.str anm,.int .i64 aop,.vslice none 0 am 5 ac,.int .i64 vk,.int .i64 vn,.str vnm,.int .i64 vop,.vslice none 0 vm 5 vc,.vslice none 0 m 5 c,.vslice none 0 mt 17 ct,.vslice none 0 ml 17 cl]]=> ∃(i j g:List E)(r l:List S)(s:BSt),(am=i.length/\ac=bP i/\vm=j.length/\vc=bP j/\m=g.length/\c=bP g/\mt=r.length/\ct=bI r/\ml=l.length/\cl=bI l)/\(StPre h id s [(.mk k nm to n (.mk ak an anm aop i) (.mk vk vn vnm vop j) g r l)]/\k=4/\3*S.cnt (.mk k nm to n (.mk ak an anm aop i) (.mk vk vn vnm vop j) g r l)<d)/\∀(u:BSt)(h2:Heap),BW h id s h2 u (S.cost (.mk k nm to n (.mk ak an anm aop i) (.mk vk vn vnm vop j) g r l))->K (.tuple []) h2
 |_=>False
def xN(id:Nat)(l:List S)(h:Heap)(s:BSt)(i:Int)(g:Nat×Heap×BSt)(j:Heap)(m:Prop):Prop:=some (TV.v (.ptr id 0))=some (TV.v (.ptr id 0))/\some (a9R l)=some (a9R l)/\tI i=tI (g.1:Int)/\j=g.2.1/\(g.1<=l.length/\BW h id s g.2.1 g.2.2 (Ss.cost (List.take g.1 l)))/\m
theorem f7M(O:Nat)(id:Nat)(l:List S)(s:BSt)(h:Heap)(Q:KT):dF (aU (aV 204 (Vu O) (aV 147 (Vw O) (aV 78 (Vv O) b0O)))) env 78 cC (mJ 2 (bsI id l s h)) bD [.ptr id 0,.vslice none 0 l.length 17 (bI l)] h Q=(
 (∃(g:Nat×Heap×BSt),xN id l h s 0 g h True)/\∀(g:Nat×Heap×BSt)(b:FF),g.1<=l.length/\BW h id s g.2.1 g.2.2 (Ss.cost (List.take g.1 l))->aK (decide ((g.1:Int)< (l.length:Int))) (aF (a5E (g.1:Int) l.length) (aN .i64 (bI l) ((g.1:Int).toNat*17) λn0=>dU (bI l) ((g.1:Int).toNat*17+1) λs1=>dU (bI l) ((g.1:Int).toNat*17+(1:Nat)+1) λs2=>aN .i64 (bI l) ((g.1:Int).toNat*17+1+1+1) λn3=>aN .i64 (bI l) ((g.1:Int).toNat*17+1+1+1+1) λn4=>aN .i64 (bI l) ((g.1:Int).toNat*17+1+1+1+1+1) λn5=>dU (bI l) ((g.1:Int).toNat*17+1+1+1+1+1+1) λs6=>aN .i64 (bI l) ((g.1:Int).toNat*17+1+1+1+1+1+1+1) λn7=>bM 5 (bI l) ((g.1:Int).toNat*17+1+1+1+(1:Nat)+1+1+1+1) λi8 e9 Z R=>aN .i64 (bI l) ((g.1:Int).toNat*17+1+1+1+1+1+1+1+1+1) λu=>aN .i64 (bI l) ((g.1:Int).toNat*17+1+1+1+1+1+1+1+1+1+1) λy=>dU (bI l) ((g.1:Int).toNat*17+1+(1:Nat)+1+1+1+1+1+1+1+1+1) λA=>aN .i64 (bI l) ((g.1:Int).toNat*17+1+1+1+1+1+1+1+(1:Nat)+1+1+1+1) λz=>bM 5 (bI l) ((g.1:Int).toNat*17+1+1+1+1+1+1+1+1+1+1+1+1+1) λa8 a4 a0 T=>bM 5 (bI l) ((g.1:Int).toNat*17+1+1+1+1+1+1+1+1+1+1+1+1+1+1) λa9 a5 a1 V=>bM 17 (bI l) ((g.1:Int).toNat*17+1+1+1+1+1+1+1+1+1+1+1+1+1+1+1) λb0 a6 a2 X=>bM 17 (bI l) ((g.1:Int).toNat*17+1+1+1+1+1+1+1+1+1+1+1+1+1+1+(1:Nat)+1) λb1 a7 a3 Y=> ∃(j m i:List E)(L D:List M10.S)(K:BSt),(Z=j.length/\R=bP j/\a0=m.length/\T=bP m/\a1=i.length/\V=bP i/\a2=L.length/\X=bI L/\a3=D.length/\Y=bI D)/\(StPre g.2.1 id K [M10.S.mk n0 s1 s2 n3 (E.mk n4 n5 s6 n7 j) (E.mk u y A z m) i L D]/\(3:Nat)*M10.S.cnt (M10.S.mk n0 s1 s2 n3 (E.mk n4 n5 s6 n7 j) (E.mk u y A z m) i L D)+1<O)/\∀(G:BSt)(h2:Heap),BW g.2.1 id K h2 G (M10.S.cost (M10.S.mk n0 s1 s2 n3 (E.mk n4 n5 s6 n7 j) (E.mk u y A z m) i L D))-> ∃(r:Nat×Heap×BSt),xN id l h s (wW ((g.1:Int)+(1:Int))) r h2 (l.length-r.1<l.length-g.1))) (Q (.tuple []) g.2.1)):=by kernel_rfl
def B4(id:Nat)(h2:Heap)(v:Int)(g:Y14):=h2.set id (gE 5 g [iI v] 6)
def a9X(g:Y10×Nat×Heap×BSt×Y12):=g.2.2.2.2
def Aq(k n A D u K L z:Int)(nm G r y:Y11)(i j g:List E)(l m:List S):=[iI k,IV.str nm,IV.str G,iI n,iI A,iI D,IV.str r,iI u,IV.vslice none 0 i.length 5 (bP i),iI K,iI L,IV.str y,iI z,IV.vslice none 0 j.length 5 (bP j),IV.vslice none 0 g.length 5 (bP g),IV.vslice none 0 l.length 17 (bI l),IV.vslice none 0 m.length 17
 (bI m)]
def Ar(g:Nat×Heap×BSt×IV×Y12):=g.2.2.2
def tV(g:Y10×Nat×Heap×BSt×Y12):=g.2.2.1
def As(g:Nat×Heap×BSt×Int×Nat×Int):=g.2.1
def Lh:=IV.int .i64
def a9N(g:Y10×Nat×Heap×BSt×Y12):=g.2.2.2
def a9O(g:Nat×Heap×BSt×Int×Nat×Int):=g.2.2.2.2
def Tk(id:Nat)(d:Nat)(m:List E)(r:Heap)(u:Int)(y:Int)(z:Y11)(A:Int)(G:List E->BSt->Int->Heap->BSt->Prop):Prop:= ∃(g:List E)(i:BSt),(m.length=g.length/\bP m=bP g)/\ExPre r id i d u y z A g/\∀(D:Int)(j:Heap)(l:BSt),BI r id i j l (E.cost (E.mk u y z A g))->G g i D j
 l
def a5H(id:Nat)(i:Heap)(j:Heap)(l:Bool)(m:Nat)(r:Nat)(u:Int)(y:Y14->Prop):Prop:=fO i id 4=fO j id 4/\aF l (aT i m λg=>aF (Nat.ble (r+u.toNat*1+1) g.length) (y g))
def Ti(g:Nat)(i:Y14):Bool:=Nat.ble g i.length
def iH(h2:Heap)(id:Nat)(Q:KT)(D:Nat)(G:Int->Y14)(K:Int)(L:Int):Prop:=aT h2 id λm=>aN .i64 m 5 λr=> ∃(j:PSt)(u:IV)(g:Y12),(D=g.length/\(G r)=List.map Lh g)/\PutPre h2 id j u K L g/\∀(y:Int)(i:Heap)(z:IV)(A:Y15),PutPost h2 id j
 i z A->aT i id λl=>aF (Ti 6 l) (Q (.tuple []) (i.set id (gE 5 l [iI y] 6)))
def M6(id:Nat)(g:IV)(i:IV)(j:Prop):Prop:=some (TV.v (.ptr id 0))=some (TV.v (.ptr id 0))/\some (TV.l 3 0)=some (TV.l 3 0)/\some (TV.v g)=some (TV.v i)/\j
def a5B(k:Int)(nm:Y11)(K:Y11)(n:Int)(D:Int)(G:Int)(j:Y11)(l:Int)(i:List E)(L:Int)(O:Int)(r:Y11)(u:Int)(m:List E)(g:List E)(y:List S)(z:List S)(A:Prop):Prop:=some (Aq k n D G l L O u nm K j r i m g y z)=some (Aq k n D G l L O u nm K j r i m g y z)/\A
def rX(h2:Heap)(id:Nat)(v:Int)(Q:KT)(g:Y14):Prop:=aT (B4 id h2 v g) id λL=>jR 1 L 4 False λy u O=>aT (B4 id h2 v g) id λR=>aN .i64 R 5 λT=> ∃(m:BSt),BH (B4 id h2 v g) id m/\∀(i:Nat),i< (cK (BSt.f m)).length->fO (B4 id h2 v g) id (5
 :Nat)=fO (B4 id h2 v g) id 5/\fO (B4 id h2 v g) id 4=fO (B4 id h2 v g) id 4/\∃(r:PSt)(z:IV)(j:Y12),((1:Nat)=j.length/\[iI T]=List.map Lh j)/\PutPre (B4 id h2 v g) id r z (24
 :Int) 0 j/\∀(A:Int)(l:Heap)(D:IV)(G:Y15),PutPost (B4 id h2 v g) id r l D G->a5H id l (B4 id h2 v g) (a5E (i:Int) O) y u (i:Int) (λK=>(Q (.tuple []) (l.set y (gE (u
 +(i:Int).toNat*1) K [iI A] (u+(i:Int).toNat*1+1)))))
def Ii(id:Nat)(A:Nat)(u:Nat)(y:Nat)(l:List S)(m:Heap)(z:Heap->Prop):Prop:=aF (Nat.ble u y) (∃(g:List M10.S)(i:BSt),(l.length=g.length/\bI l=bI g)/\(StPre m id i g/\(3:Nat)*Ss.cnt g+2<A)/\∀(r:BSt)(j:Heap),BW m id i j r (Ss.cost g)->z j)
def a5F(id:Nat)(g:Int)(i:Int)(j:IV)(l:IV)(m:TV)(r:TV)(u:IV)(y:TV)(z:Prop):Prop:=some (TV.v (.ptr id 0))=some (TV.v (.ptr id 0))/\tI g=tI i/\some (TV.v j)=some (TV.v l)/\some m=some r/\some (TV.v u)=some y/\z
def Y6(s:BSt):Nat:=(cK (BSt.f s)).length
def a5C(m:Heap)(id:Nat)(a1:Int)(l:List S)(dd:Nat)(v:Int)(s:BSt)(h:Heap)(k:Int)(nm:Y11)(to:Y11)(n:Int)(ak:Int)(an:Int)(V:Y11)(X:Int)(T:List E)(vk:Int)(vn:Int)(Z:Y11)(a0:Int)(Y:List E)(u:List E)(r:List S)(Q:KT)(c4:Y14):=aT m id λa2=>jR 1 a2 4 False λa3 a4 a5=>aT m id λa6=>aN .i64 a6 5 λa7=>aT m id λy=>aF (Ti 6 y) (aT (m.set id (gE 5 y [iI a1] 6)) id λL=>Ii id dd 5 L.length l
 ((m.set id (gE 5 y [iI a1] 6)).set id (gE 4 L c4 5)) (λa8=>(∃(j:Nat×Heap×BSt×Int×Nat×Int),a5F id v j.2.2.2.1 (IV.hslice a3 a4 a5 1) (IV.hslice j.2.2.2.2.1 0 (Y6 s) 1) (TV.v (.int .i64 a7)) (TV.v
 (.int .i64 j.2.2.2.2.2)) (iI 0) (TV.v (.int .i64 (j.1:Int))) (a8=j.2.1/\IfP h id s j.2.1 j.2.2.1 j.2.2.2.2.1 j.1 (M10.S.mk k nm to n (E.mk ak an V X T) (E.mk vk vn Z a0 Y) u r l)/\True))/\∀(g:Nat×Heap×BSt×Int×Nat×Int)(c5:FF),IfP
 h id s (As g) g.2.2.1 ((a9O g).1) g.1 (M10.S.mk k nm to n (E.mk ak an V X T) (E.mk vk vn Z a0 Y) u r l)->aT (As g) id λa9=>jR 1 a9 4 False λc6 c7 b0=>aK (decide ((g.1:Int)< (b0:Int))) (aT (As g) id fun
 zb57=>jR 1 zb57 4 False λO z b1=>aF (a5E (g.1:Int) (Y6 s)) (aT (As g) ((a9O g).1) λb2=>aN .i64 b2 ((0:Nat)+(g.1:Int).toNat*1) λc8=>aT (As g) id λb3=>jR 1 b3 4 False λb4 b5 b6=>aF
 (a5E (g.1:Int) b6) (aT (As g) b4 λb7=>aN .i64 b7 (b5+(g.1:Int).toNat*1) λc9=> ∃(A:BSt),(BH (As g) id A/\List.length (BSt.ns A)<99990)/\∀(b8:Int)(D:Heap)(b9:BSt),BI (As g) id A D b9 1->
 a5H id D (As g) (a5E (g.1:Int) b1) O z (g.1:Int) (λc0=>(∃(i:Nat×Heap×BSt×Int×Nat×Int),a5F id g.2.2.2.1 i.2.2.2.1 (IV.hslice ((a9O g).1) 0 (Y6 s) 1) (IV.hslice i.2.2.2.2.1 0 (Y6 s) 1) (TV.v (.int .i64 (Prod.snd
 (a9O g)))) (TV.v (.int .i64 i.2.2.2.2.2)) (iI (wW ((g.1:Int)+1))) (TV.v (.int .i64 (i.1:Int))) (D.set O (gE (z+(g.1:Int).toNat*1) c0 [iI b8] (z+(g.1:Int).toNat*1+1))=i.2.1/\IfP h id s i.2.1 i.2.2.1 i.2.2.2.2.1
 i.1 (M10.S.mk k nm to n (E.mk ak an V X T) (E.mk vk vn Z a0 Y) u r l)/\List.length (cK (BSt.f s))-i.1< (cK (BSt.f s)).length-g.1)))))) (aT (As g) id λc1=>aN .i64 c1 5 λd0=> ∃(G:BSt),(BH (As g) id G/\List.length (BSt.ns
 G)<99990)/\∀(c2:Int)(K:Heap)(c3:BSt),BI (As g) id G K c3 1->aT K id λR=>aF (Ti 6 R) (Q (.tuple []) (K.set id (gE 5 R [iI c2] 6))))))
theorem f7N(dd:Nat)(id:Nat)(k:Int)(nm to:Y11)(n:Int)(ak an:Int)(K:Y11)(L:Int)(G:List E)(Y Z:Int)(l:Y11)(m:Int)(j:List E)(g:List E)(th el:List S)(s:BSt)(h:Heap)(Q:KT):dF (aU (aV 204 (Vu dd) (aV 147 (Vw dd) (aV 78 (Vv dd) b0O)))) env 147 cC (zE 21 (caI id k nm to n ak an K L G Y Z l m j g th el s h) (mJ 37 (ifI id k nm to n ak an K L G Y Z l m j g th el s h))) (mJ 24 (caC id k nm to n ak an K L G Y Z l m j g th el s h)) [.ptr id 0,.agg [.int .i64 k,.str nm,.str to,.int .i64 n,.int .i64 ak,.int .i64 an,.str K,.int .i64 L,.vslice none 0 G.length 5 (bP G),.int .i64 Y,.int .i64 Z,.str l,.int .i64 m,.vslice none 0 j.length 5 (bP j),.vslice none 0 g.length 5 (bP g),.vslice none 0 th.length 17 (bI th),.vslice none 0 el.length 17 (bI el)]] h Q=(
 aK (k==1) (∃(d:Nat),Tk id d j h Y Z l m (λks s v h2 O=>aT h2 id λr0=>jR 1 r0 4 False λi1 o2 l3=> ∃(s:BSt),BH h2 id s/\∀(i:Nat),i< (cK (BSt.f s)).length->a5H id h2 h2 (a5E (i:Int) l3) i1 o2 (i:Int) (λr4=>(Q (.tuple []) (h2.set i1 (gE (o2+(i:Int).toNat*1) r4 [iI v] (o2+(i:Int).toNat*1+1))))))) (aK (k==2) (∃(d:Nat),Tk id d G h ak an K L (λks s v h2 O=> ∃(d:Nat)(ks:List E)(s:BSt),(j.length=ks.length/\bP j=bP ks)/\ExPre h2 id s d Y Z l m ks/\∀(d0:Int)(z:Heap)(O:BSt),BI h2 id s z O (E.cost (E.mk Y Z l m ks))-> ∃(s:BSt),BH z id s/\∀(i:Nat),i<2-> ∃(s:BSt),(BH z id s/\List.length (BSt.ns s)<99990/\0<=(i:Int)/\(i:Int)<2)/\∀(h2:Heap)(O:BSt),BI z id s h2 O 3->iH h2 id Q 3 (λn6=>[iI n6,iI v,iI d0]) 28 (i:Int))) (aK (k==5) (∃(d:Nat),Tk id d j h Y Z l m (λks s v h2 O=>iH h2 id Q 2 (λn9=>[iI n9,iI v]) 29 0)) (aK (k==7) (∃(p:PSt)(lv:IV)(lc:Y12),((0:Nat)=lc.length/\[]=List.map Lh lc)/\PutPre h id p lv 1 0 lc/\∀(v:Int)(h2:Heap)(lv:IV)(ns:Y15),PutPost h id p h2 lv ns->iH h2 id Q 2 (λc6=>[iI c6,iI v]) 27 (wW ((16:Int)+n))) (aK (k==6) (((∃(D:Nat×Heap×BSt×IV×Y12),M6 id IV.nilslice ((Ar D).1) (tI 0=tI ((D.1):Int)/\a5B k nm to n ak an K L G Y Z l m j g th el (h=D.2.1/\CaP h id s D.2.1 D.2.2.1 ((Ar D).1) ((Ar D).2) D.1 g/\True)))/\∀(D:Nat×Heap×BSt×IV×Y12)(b:FF),CaP h id s D.2.1 D.2.2.1 ((Ar D).1) ((Ar D).2) D.1 g->aK (decide ((D.1:Int)< (g.length:Int))) (aF (a5E (D.1:Int) g.length) (aN .i64 (bP g) ((D.1:Int).toNat*5) λa2=>aN .i64 (bP g) ((D.1:Int).toNat*5+1) λa3=>dU (bP g) ((D.1:Int).toNat*5+1+1) λb2=>aN .i64 (bP g) ((D.1:Int).toNat*5+1+1+1) λa4=>bM 5 (bP g) ((D.1:Int).toNat*5+1+1+1+1) λd4 d1 c2 b4=> ∃(d:Nat)(ks:List E)(a1:BSt),(c2=ks.length/\b4=bP ks)/\ExPre D.2.1 id a1 d a2 a3 b2 a4 ks/\∀(v:Int)(h2:Heap)(O:BSt),BI D.2.1 id a1 h2 O (E.cost (E.mk a2 a3 b2 a4 ks))->dX h2 1 8 ((Ar D).1) 1 [iI v] λc0 b8 c3 b5 b9=> ∃(A:Nat×Heap×BSt×IV×Y12),M6 id (IV.vslice (some c0) b8 c3 1 b5) A.2.2.2.1 (tI (wW ((D.1:Int)+1))=tI (A.1:Int)/\a5B k nm to n ak an K L G Y Z l m j g th el (b9=A.2.1/\CaP h id s A.2.1 A.2.2.1 A.2.2.2.1 A.2.2.2.2 A.1 g/\g.length-A.1<g.length-D.1)))) (∃(u:Y10×Nat×Heap×BSt×Y12),M6 id ((Ar D).1) (IV.vslice u.1 u.2.1 (((a9N u).2).length) 1 (List.map Lh ((a9N u).2))) (a5B k nm to n ak an K L G Y Z l m j g th el (D.2.1=u.2.2.1/\((BW h id s u.2.2.1 ((a9N u).1) (Es.cost g)/\BSt.iv ((a9N u).1)=BSt.iv s)/\1<=List.length ((a9N u).2)/\List.length ((a9N u).2)<=2)/\True))))/\∀(xc:Y10×Nat×Heap×BSt×Y12)(b:FF),(BW h id s (tV xc) xc.2.2.2.1 (Es.cost g)/\BSt.iv (xc.2.2.2.1)=BSt.iv s)/\1<=List.length (a9X xc)/\List.length (a9X xc)<=2->aT (tV xc) id λa8=>bM 2 a8 0 λd5 d2 c4 b6=>bM 9 a8 1 λd6 d3 c5 b7=>(c4=2/\c5=2)/\sC b6 b7/\∀(r:Int),bE r->aT (tV xc) id λc7=>aN .i64 c7 5 λa5=>aK (Nat.beq ((a9X xc).length) 0) (∃(p:PSt)(lv:IV)(lc:Y12),((1:Nat)=lc.length/\[iI a5]=List.map Lh lc)/\PutPre (tV xc) id p lv 30 r lc/\∀(v:Int)(h2:Heap)(lv:IV)(ns:Y15),PutPost (tV xc) id p h2 lv ns->aT h2 id λa9=>aF (Ti 6 a9) (rX h2 id v Q a9)) (aF (Nat.ble (((1:Nat)+(a9X xc).length)*8) 140737488355328) (∃(p:PSt)(lv:IV)(lc:Y12),((1:Nat)+(a9X xc).length=lc.length/\iI a5::List.map Lh (a9X xc)=List.map Lh lc)/\PutPre ((tV xc).push (IObj.tip (((1:Nat)+(a9X xc).length)*1))) id p lv 30 r lc/\∀(v:Int)(h2:Heap)(lv:IV)(ns:Y15),PutPost ((tV xc).push (IObj.tip (((1:Nat)+(a9X xc).length)*1))) id p h2 lv ns->aT h2 id λb0=>aF (Ti 6 b0) (rX h2 id v Q b0)))) (aK (k==3) (∃(d:Nat),Tk id d j h Y Z l m (λks a1 v h2 O=>aT h2 id λc8=>aN .i64 c8 5 λa6=>aT h2 id λc9=>jR 1 c9 4 False λc1 a7 a0=>aT h2 c1 λb1=>aF (Nat.ble (a7+a0*1) b1.length) (aK (Nat.beq a0 0) (∃(ld:List M10.S)(b3:BSt),(th.length=ld.length/\bI th=bI ld)/\(StPre h2 id b3 ld/\(3:Nat)*Ss.cnt ld+2<dd)/\∀(O:BSt)(z:Heap),BW h2 id b3 z O (Ss.cost ld)->a5C z id a6 el dd v s h k nm to n ak an K L G Y Z l m j g th Q [IV.vslice none 1 0 1 []]) (Ii id dd (((0:Nat)+a0)*8) 140737488355328 th (h2.push (IObj.cells ([]++List.take (a0*1) (List.drop a7 b1)))) (λz=>a5C z id a6 el dd v s h k nm to n ak an K L G Y Z l m j g th Q [IV.hslice (h2.next) 0 ((0:Nat)+a0) 1]))))) (aK (k==4) (∃(R T y:List E)(X V:List M10.S)(s:BSt),(G.length=R.length/\bP G=bP R/\j.length=T.length/\bP j=bP T/\g.length=y.length/\bP g=bP y/\th.length=X.length/\bI th=bI X/\el.length=V.length/\bI el=bI V)/\(StPre h id s [M10.S.mk k nm to n (E.mk ak an K L R) (E.mk Y Z l m T) y X V]/\k=4/\(3:Nat)*M10.S.cnt (M10.S.mk k nm to n (E.mk ak an K L R) (E.mk Y Z l m T) y X V)<dd)/\∀(O:BSt)(h2:Heap),BW h id s h2 O (M10.S.cost (M10.S.mk k nm to n (E.mk ak an K L R) (E.mk Y Z l m T) y X V))->Q (.tuple []) h2) (Q (.tuple []) h)))))))):=by kernel_rfl
def fN:=TV.l 3 0
def qP:=IV.int .i64
def kK(g:LoS):=wW (((LoS.i g):Int)+1)
def tW(m:LoS)(j i:Nat)(l:Y14):=(LoS.g m).push (IObj.cells ([]++List.take (i*1) (List.drop j l)))
def Zl(g:LoS):=(LoS.ks g).length+1
def tX(s:BSt)(g:LoS):=IV.hslice (LoS.jn g) 0 (Y6 s) 1
def T2(g:LoS):=decide (((LoS.i g):Int)< (↑((LoS.w g).length):Int))
def Bz(g:LoS):TV:=TV.v (.int .i64 ((LoS.i g):Int))
def rW(id:Nat)(s:BSt)(g:LoS)(i:LoS)(j:TV)(l:TV)(m:IV)(r:TV)(w:TV)(y:TV)(z:IV)(A:TV)(D:Prop):Prop:=a5F id (BSt.lo s) (BSt.lo s) (iI (LoS.c g)) (iI (LoS.c i)) j l m r (some w=some y/\some (TV.v z)=some A/\D)
def gD(s:BSt)(g:LoS):IV:=IV.hslice (LoS.jo g) 0 (Y6 s) 1
def Y5(g:LoS):IV:=IV.vslice (LoS.iW g) (LoS.eW g) ((LoS.w g).length) 1 (List.map qP (LoS.w g))
def lW(id:Nat)(s:BSt)(k:Int)(nm:Y11)(to:Y11)(n:Int)(ak:Int)(an:Int)(a4:Y11)(a5:Int)(a3:List E)(vk:Int)(vn:Int)(Y:Y11)(Z:Int)(X:List E)(a0:List E)(r:List S)(m:List S)(h:Heap)(u:LoS)(y:IV)(z:Int)(A:IV)(D:Int)(G:TV)(K:Heap)(L:Nat)(O:Nat)(R:Y14)(T:Int)(V:Nat)(a1:LoS->Prop)(a2:LoS->Prop):Prop:=(∃(j:LoS),rW id s u j fN fN y (TV.v (gD s j)) (TV.v (.int .i64 z)) (TV.v (.int .i64 (LoS.a j))) A (TV.v (LoS.KS j)) (tI D=some (Bz j)/\some G=some (TV.v IV.nilslice)/\a5B k nm to n ak an a4 a5 a3 vk vn Y Z X a0
 r m (K.set L (gE O R [iI T] V)=LoS.g j/\(LoS.w j=[]/\LoP2 h id s j (LoS.i j) (E.mk vk vn Y Z X))/\a1 j))) \/ ∃(l:LoS),rW id s u l fN fN y (TV.v (gD s l)) (TV.v (.int .i64 z)) (TV.v (.int
 .i64 (LoS.a l))) A (TV.v (LoS.KS l)) (tI D=some (Bz l)/\some G=some (TV.v (Y5 l))/\a5B k nm to n ak an a4 a5 a3 vk vn Y Z X a0 r m (K.set L (gE O R [iI T] V)=LoS.g l/\LoP2 h id s l (LoS.i l)
 (E.mk vk vn Y Z X)/\a2 l))
def xM(g:LoS)(l:Int->Prop):Prop:=aF (a5E ((LoS.i g):Int) ((LoS.w g).length)) (aN .i64 (List.map qP (LoS.w g)) (((LoS.i g):Int).toNat*1) λj=>l j)
def nE(g:LoS)(j:LoS):Prop:=(LoS.w g).length-LoS.i g< (LoS.w j).length-LoS.i j
def oJ(id:Nat)(s:BSt)(xe:LoS)(k:Int)(nm:Y11)(to:Y11)(n:Int)(ak:Int)(an:Int)(X:Y11)(Y:Int)(V:List E)(Z:Int)(vn:Int)(z:Y11)(A:Int)(y:List E)(G:List E)(u:List S)(r:List S)(h2:Heap)(v:Int)(h:Heap)(b7:IV)(b6:Int)(b8:Y14):Prop:=(lW id s k nm to n ak an X Y V Z vn z A y G u r h xe b7 b6 (IV.vslice none 1 1 1 [iI b6]) 0 (TV.v (LoS.W xe)) h2 id 5 b8 v 6 (λc0=>True) (λc1=>True))/\(∀(D:LoS)(c2:FF),LoS.w D=[]/\LoP2 h id s D (LoS.i D) (E.mk Z
 vn z A y)-> ∃(l:LoS),rW id s D l fN fN IV.nilslice (TV.v (LoS.W l)) (TV.v (gD s D)) (TV.v (gD s l)) (iI (LoS.a D)) (TV.v (.int .i64 (LoS.a l))) (some (TV.v (LoS.KS D))=some (TV.v (LoS.KS l))/\a5B k nm to n ak an X Y V Z vn z A y
 G u r (LoS.g D=LoS.g l/\(WF l/\LoP2 h id s l ((LoS.w l).length) (E.mk Z vn z A y))/\True)))/\∀(j:LoS)(b9:FF),LoP2 h id s j (LoS.i j) (E.mk Z vn z A y)->aK (decide (((LoS.i j):Int)< (↑((LoS.w j).length):Int))) (xM
 j (λa0=>aF (vD a0 ((cK (BSt.f s)).length)) (aT (LoS.g j) (LoS.jo j) λa3=>aN .i64 a3 ((0:Nat)+a0.toNat*1) λa4=>dX (LoS.g j) 1 8 (LoS.KS j) 1 [iI a4] λa5 a6 a7 a8 K=>aT K id λa9=>jR 1
 a9 4 False λa1 O b0=>xM j (λL=> ∃(a2:PSt)(b1:IV)(R:Y12),((0:Nat)=R.length/\[]=List.map qP R)/\PutPre K id a2 b1 3 (wW (wW (wW ((16:Int)*BSt.lo s)+1)+((LoS.i j):Int))) R/\∀(b2:Int)(T:Heap)
 (zb31:IV) (zb32:Y15),PutPost K id a2 T zb31 zb32->a5H id T K (vD L b0) a1 O L (λb3=>(lW id s k nm to n ak an X Y V Z vn z A y G u r h j (gD s j) (LoS.a j) (IV.vslice (some a5) a6 a7 1 a8) (wW (((LoS.i
 j):Int)+1)) (TV.v (Y5 j)) T a1 (O+L.toNat*1) b3 b2 (O+L.toNat*1+1) (λb4=>nE b4 j) (λb5=>nE b5 j))))))) (∃(m:LoS),rW id s j m fN fN (Y5 j) (TV.v (LoS.W m)) (TV.v (gD s j)) (TV.v (gD
 s m)) (iI (LoS.a j)) (TV.v (.int .i64 (LoS.a m))) (some (TV.v (LoS.KS j))=some (TV.v (LoS.KS m))/\a5B k nm to n ak an X Y V Z vn z A y G u r (LoS.g j=LoS.g m/\(WF m/\LoP2 h id s m ((LoS.w m).length) (E.mk Z vn z A y))/\True)))
def mZ(g:LoS):IV:=IV.vslice (some (LoS.jk g)) ((LoS.ks g).length) ((LoS.ks g).length) 1 (List.map qP (LoS.ks g))
def gG(id:Nat)(s:BSt)(A:LoS)(g:LoS)(i:Nat)(j:Nat)(l:Nat)(m:Y14)(r:Int)(w:TV)(y:IV)(z:Prop):Prop:=rW id s A g (TV.v (gD s A)) (TV.v (gD s g)) (iI (LoS.a A)) (TV.v (.int .i64 (LoS.a g))) (TV.v (.vslice (some i) j l 1 m)) (TV.v (mZ g)) (iI r) (Bz g) (some w=some (TV.v y)/\z)
def oV(id:Nat)(s:BSt)(i:LoS)(j:LoS)(r:Int)(l:IV)(m:Prop):Prop:=gG id s i j (LoS.jk i) (Zl i) (Zl i) (List.map qP (LoS.ks i)++ [iI r]) (kK i) (TV.v (Y5 i)) l ((LoS.g i).set (LoS.jk i) (IObj.tip (Zl i))=LoS.g j/\m)
def a5G(id:Nat)(xe:LoS)(s:BSt)(h:Heap)(k:Int)(nm:Y11)(to:Y11)(n:Int)(ak:Int)(an:Int)(X:Y11)(Y:Int)(V:List E)(vk:Int)(vn:Int)(a0:Y11)(a1:Int)(Z:List E)(T:List E)(r:List S)(m:List S)(u:Int)(y:Int)(z:TV)(A:Heap)(D:Nat)(G:Nat)(K:Y14)(L:Int)(O:Nat)(R:LoS->Prop):Prop:=(∃(j:LoS),a5F id (LoS.c xe) (LoS.c j) (gD s xe) (gD s j) (TV.v (.int .i64 u)) (TV.v (.int .i64 (LoS.lp j))) (iI y) (Bz j) (some z=some (TV.v IV.nilslice)/\Heap.set A D (gE G K [iI L] O)=LoS.g j/\(LoS.w j=[]
 /\LoP4 h id s j (LoS.i j) (M10.S.mk k nm to n (E.mk ak an X Y V) (E.mk vk vn a0 a1 Z) T r m))/\R j)) \/ ∃(l:LoS),a5F id (LoS.c xe) (LoS.c l) (gD s xe) (gD s l) (TV.v (.int .i64 u)) (TV.v (.int .i64 (LoS.lp l))) (iI y) (Bz
 l) (some z=some (TV.v (Y5 l))/\Heap.set A D (gE G K [iI L] O)=LoS.g l/\LoP4 h id s l (LoS.i l) (M10.S.mk k nm to n (E.mk ak an X Y V) (E.mk vk vn a0 a1 Z) T r m)/\R l)
theorem f7J(dd:Nat)(id:Nat)(k:Int)(nm X:Y11)(n:Int)(T V:Int)(A:Y11)(D:Int)(z:List E)(K L:Int)(u:Y11)(y:Int)(r:List E)(m:List E)(O R:List S)(s:BSt)(h:Heap)(Q:KT):dF (aU (aV 204 (Vu dd) (aV 147 (Vw dd) (aV 78 (Vv dd) b0O)))) env 204 cC (zE 9 (f4T id k nm X n T V A D z K L u y r m O R s h) (zE 18 (f4U id k nm X n T V A D z K L u y r m O R s h) (zE 26 (f4V id k nm X n T V A D z K L u y r m O R s h) (mJ 34 (f4W id k nm X n T V A D z K L u y r m O R s h))))) (icS (zE 22 (f4R id k nm X n T V A D z K L u y r m O R s h) (mJ 29 (f4S id k nm X n T V A D z K L u y r m O R s h)))) [.ptr id 0,.agg [.int .i64 k,.str nm,.str X,.int .i64 n,.int .i64 T,.int .i64 V,.str A,.int .i64 D,.vslice none 0 z.length 5 (bP z),.int .i64 K,.int .i64 L,.str u,.int .i64 y,.vslice none 0 r.length 5 (bP r),.vslice none 0 m.length 5 (bP m),.vslice none 0 O.length 17 (bI O),.vslice none 0 R.length 17 (bI R)]] h Q=(
 (aT h id λr0=>aN .i64 r0 6 λn1=>aT h id λr2=>aN .i64 r2 6 λn3=>aT h id λr4=>aF (Ti 7 r4) (∃(d:Nat),Tk id d r (h.set id (gE 6 r4 [iI (wW (n3+1))] 7)) K L u y (λks a2 v h2 a1=>aT h2 id λr5=>jR 1 r5 4 False λe8 o7 l8=>aF (decide (0<=(l8:Int)) && (decide ((l8:Int)<=(l8:Int)) && (decide ((l8:Int)<=9223372036854775807) &&decide ((1:Int)*(l8:Int)<=140737488355328)))) (∃(d:Nat)(le:List M10.S)(Z:BSt)(bs:Y13),(O.length=le.length/\bI O=bI le/\Int.toNat (l8:Int)=(cK (BSt.f Z)).length)/\AsP (h2.push (IObj.cells (fY ((l8:Int).toNat) [IV.bool false]))) id (h2.next) Z bs/\(Ss.cnt le<d/\Ss.cnt le<=1000)/\∀(c2:Y13)(G:Heap),AsP G id (h2.next) Z c2->FV (h2.next) (h2.next) (h2.push (IObj.cells (fY ((l8:Int).toNat) [IV.bool false]))) G->(∃(l:LoS),a5F id n1 (BSt.lo s) (iI v) (iI (LoS.c l)) fN fN (IV.hslice (h2.next) 0 ((l8:Int).toNat) 1) (TV.v (tX s l)) (some (TV.v IV.nilslice)=some (TV.v (LoS.W l))/\tI 0=some (Bz l)/\a5B k nm X n T V A D z K L u y r m O R (G=LoS.g l/\LoP1 h id s l (LoS.i l) (E.mk K L u y r)/\True)))/\∀(l:LoS)(b:FF),LoP1 h id s l (LoS.i l) (E.mk K L u y r)->aK (decide (((LoS.i l):Int)< (↑((cK (BSt.f s)).length):Int))) (aF (a5E ((LoS.i l):Int) (Y6 s)) (aT (LoS.g l) (LoS.jn l) λr9=>kQ r9 ((0:Nat)+((LoS.i l):Int).toNat*1) λc1=>aK c1 (dX (LoS.g l) 1 8 (LoS.W l) 1 [iI ((LoS.i l):Int)] λc6 c4 c9 c3 c5=> ∃(j:LoS),rW id s l j fN fN (tX s l) (TV.v (.hslice (LoS.jn j) 0 (Y6 s) 1)) (TV.v (.vslice (some c6) c4 c9 1 c3)) (TV.v (LoS.W j)) (iI (kK l)) (Bz j) (a5B k nm X n T V A D z K L u y r m O R (c5=LoS.g j/\LoP1 h id s j (LoS.i j) (E.mk K L u y r)/\List.length (cK (BSt.f s))-LoS.i j< (cK (BSt.f s)).length-LoS.i l))) (∃(j:LoS),rW id s l j fN fN (tX s l) (TV.v (.hslice (LoS.jn j) 0 (Y6 s) 1)) (TV.v (LoS.W l)) (TV.v (LoS.W j)) (iI (kK l)) (Bz j) (a5B k nm X n T V A D z K L u y r m O R (LoS.g l=LoS.g j/\LoP1 h id s j (LoS.i j) (E.mk K L u y r)/\List.length (cK (BSt.f s))-LoS.i j< (cK (BSt.f s)).length-LoS.i l))))) (aT (LoS.g l) id λd7=>jR 1 d7 4 False λc7 a5 a0=>aT (LoS.g l) c7 λa6=>aF (Nat.ble (a5+a0*1) a6.length) (aK (Nat.beq a0 0) (aT (LoS.g l) id λd8=>aN .i64 d8 5 λd3=> ∃(p:PSt)(lv:IV)(Y:Y12),((0:Nat)=Y.length/\[]=List.map qP Y)/\PutPre (LoS.g l) id p lv 3 (wW ((16:Int)*BSt.lo s)) Y/\∀(v:Int)(h2:Heap)(lv:IV)(ns:Y15),PutPost (LoS.g l) id p h2 lv ns->aT h2 id λb8=>aF (Ti 6 b8) (oJ id s l k nm X n T V A D z K L u y r m O R h2 v h (IV.vslice none 1 0 1 []) d3 b8)) (aF (Nat.ble (((0:Nat)+a0)*8) 140737488355328) (aT (tW l a5 a0 a6) id λd9=>aN .i64 d9 5 λd4=> ∃(p:PSt)(lv:IV)(Y:Y12),((0:Nat)=Y.length/\[]=List.map qP Y)/\PutPre (tW l a5 a0 a6) id p lv 3 (wW ((16:Int)*BSt.lo s)) Y/\∀(v:Int)(h2:Heap)(lv:IV)(ns:Y15),PutPost (tW l a5 a0 a6) id p h2 lv ns->aT h2 id λb9=>aF (Ti 6 b9) (oJ id s l k nm X n T V A D z K L u y r m O R h2 v h (IV.hslice ((LoS.g l).next) 0 ((0:Nat)+a0) 1) d4 b9)))))))))/\(∀(l:LoS)(b:FF),WF l/\LoP2 h id s l ((LoS.w l).length) (E.mk K L u y r)-> ∃(le:List M10.S)(a2:BSt),(O.length=le.length/\bI O=bI le)/\(StPre (LoS.g l) id a2 le/\(3:Nat)*Ss.cnt le+2<dd)/\∀(a1:BSt)(h2:Heap),BW (LoS.g l) id a2 h2 a1 (Ss.cost le)-> ∃(d:Nat),Tk id d r h2 K L u y (λks Z v G a1=>aT G id λe1=>aN .i64 e1 5 λd5=>dX G 1 8 (LoS.KS l) 2 [iI v,iI d5] λb2 b0 b4 a9 b1=>((∃(j:LoS),gG id s l j b2 b0 b4 a9 0 (TV.v (LoS.W l)) IV.nilslice (b1=LoS.g j/\(LoS.w j=[]/\LoP3 h id s j (LoS.i j) (M10.S.mk k nm X n (E.mk T V A D z) (E.mk K L u y r) m O R))/\True)) \/ ∃(j:LoS),gG id s l j b2 b0 b4 a9 0 (TV.v (LoS.W l)) (Y5 j) (b1=LoS.g j/\LoP3 h id s j (LoS.i j) (M10.S.mk k nm X n (E.mk T V A D z) (E.mk K L u y r) m O R)/\True))/\(∀(l:LoS)(b:FF),LoS.w l=[]/\LoP3 h id s l (LoS.i l) (M10.S.mk k nm X n (E.mk T V A D z) (E.mk K L u y r) m O R)-> ∃(j:LoS),rW id s l j (TV.v IV.nilslice) (TV.v (LoS.W j)) (gD s l) (TV.v (gD s j)) (TV.v (.int .i64 (LoS.a l))) (TV.v (.int .i64 (LoS.a j))) (mZ l) (TV.v (mZ j)) (LoS.g l=LoS.g j/\(WF j/\LoP3 h id s j ((LoS.w j).length) (M10.S.mk k nm X n (E.mk T V A D z) (E.mk K L u y r) m O R))/\True))/\∀(l:LoS)(b:FF),LoP3 h id s l (LoS.i l) (M10.S.mk k nm X n (E.mk T V A D z) (E.mk K L u y r) m O R)->aK (T2 l) (aT (LoS.g l) id λe2=>jR 1 e2 4 False λc8 d6 d0=>xM l (λb5=>aF (vD b5 d0) (aT (LoS.g l) c8 λe3=>aN .i64 e3 (d6+b5.toNat*1) λb6=>lL (LoS.g l) (LoS.jk l) λd2=>aF (Nat.beq d2 ((LoS.ks l).length) &&Nat.ble ((Zl l)*8) 140737488355328) ((∃(j:LoS),oV id s l j b6 IV.nilslice ((LoS.w j=[]/\LoP3 h id s j (LoS.i j) (M10.S.mk k nm X n (E.mk T V A D z) (E.mk K L u y r) m O R))/\nE j l)) \/ ∃(j:LoS),oV id s l j b6 (Y5 j) (LoP3 h id s j (LoS.i j) (M10.S.mk k nm X n (E.mk T V A D z) (E.mk K L u y r) m O R)/\nE j l))))) (∃(j:LoS),rW id s l j (TV.v (Y5 l)) (TV.v (LoS.W j)) (gD s l) (TV.v (gD s j)) (TV.v (.int .i64 (LoS.a l))) (TV.v (.int .i64 (LoS.a j))) (mZ l) (TV.v (mZ j)) (LoS.g l=LoS.g j/\(WF j/\LoP3 h id s j ((LoS.w j).length) (M10.S.mk k nm X n (E.mk T V A D z) (E.mk K L u y r) m O R))/\True))))/\(∀(l:LoS)(b:FF),WF l/\LoP3 h id s l ((LoS.w l).length) (M10.S.mk k nm X n (E.mk T V A D z) (E.mk K L u y r) m O R)-> ∃(p:PSt)(lv:IV)(Y:Y12),((LoS.ks l).length=Y.length/\List.map qP (LoS.ks l)=List.map qP Y)/\PutPre (LoS.g l) id p lv 31 (BSt.lo s) Y/\∀(v:Int)(h2:Heap)(lv:IV)(ns:Y15),PutPost (LoS.g l) id p h2 lv ns->aT h2 id λa8=>aF (Ti 5 a8) (∃(p:PSt)(lv:IV)(Y:Y12),((1:Nat)=Y.length/\[iI v]=List.map qP Y)/\PutPre (h2.set id (gE 4 a8 [gD s l] 5)) id p lv 25 0 Y/\∀(f0:Int)(G:Heap)(lv:IV)(ns:Y15),PutPost (h2.set id (gE 4 a8 [gD s l] 5)) id p G lv ns-> ∃(a2:BSt),(BH G id a2/\List.length (BSt.ns a2)<99990)/\∀(e7:Int)(h2:Heap)(a1:BSt),BI G id a2 h2 a1 1->aT h2 id λc0=>aF (Ti 6 c0) ((a5G id l s h k nm X n T V A D z K L u y r m O R v 0 (TV.v (LoS.W l)) h2 id 5 c0 e7 6 (λj=>True))/\(∀(l:LoS)(b:FF),LoS.w l=[]/\LoP4 h id s l (LoS.i l) (M10.S.mk k nm X n (E.mk T V A D z) (E.mk K L u y r) m O R)->Q (.tuple []) (LoS.g l))/\∀(l:LoS)(b:FF),LoP4 h id s l (LoS.i l) (M10.S.mk k nm X n (E.mk T V A D z) (E.mk K L u y r) m O R)->aK (T2 l) (∃(p:PSt)(lv:IV)(Y:Y12),((1:Nat)=Y.length/\[iI (LoS.lp l)]=List.map qP Y)/\PutPre (LoS.g l) id p lv 25 (wW ((1:Int)+((LoS.i l):Int))) Y/\∀(v:Int)(h2:Heap)(lv:IV)(ns:Y15),PutPost (LoS.g l) id p h2 lv ns->aT h2 id λe4=>jR 1 e4 4 False λb3 a7 d1=>xM l (λa4=>aF (a5E ((LoS.i l):Int) ((LoS.w l).length)) (aN .i64 (List.map qP (LoS.w l)) (((LoS.i l):Int).toNat*1) λb7=>aF (vD b7 ((cK (BSt.f s)).length)) (aT h2 (LoS.jo l) λe5=>aN .i64 e5 ((0:Nat)+b7.toNat*1) λe9=> ∃(Z:BSt),(BH h2 id Z/\List.length (BSt.ns Z)<99990)/\∀(v:Int)(a3:Heap)(a1:BSt),BI h2 id Z a3 a1 1->a5H id a3 h2 (vD a4 d1) b3 a7 a4 (λe6=>(a5G id l s h k nm X n T V A D z K L u y r m O R (LoS.lp l) (kK l) (TV.v (Y5 l)) a3 b3 (a7+a4.toNat*1) e6 v (a7+a4.toNat*1+1) (λj=>nE j l))))))) (Q (.tuple []) (LoS.g l)))))/\True):=by kernel_rfl
theorem gBd: ∀d,(∀xs h Q,Vv d xs h Q->aM env 78 xs h Q)/\(∀xs h Q,Vw d xs h Q->aM env 147 xs h Q)/\(∀xs h Q,Vu d xs h Q->aM env 204 xs h Q):=by
 intro d
 induction d with
 |zero=>
  refine⟨?_,?_,?_⟩
  .intro xs h Q hk;unfold Vv at hk;split at hk
   .rename_i id m c;obtain⟨l,s,⟨rfl,rfl⟩,⟨hp,hd⟩,hk⟩:=hk;omega
   .exact hk.elim
  .intro xs h Q hk;unfold Vw at hk;split at hk
   .rename_i id k nm to n ak an a7 a8 am ac vk vn a3 a4 vm vc m c mt ct ml cl;obtain⟨X,K,L,th,el,s,⟨rfl,rfl,rfl,rfl,rfl,rfl,rfl,rfl,rfl,rfl⟩,⟨hp,hd⟩,hk⟩:=hk;omega
   .exact hk.elim
  .intro xs h Q hk;unfold Vu at hk;split at hk
   .rename_i id k nm to n ak an a7 a8 am ac vk vn a3 a4 vm vc m c mt ct ml cl;obtain⟨X,K,L,th,el,s,⟨rfl,rfl,rfl,rfl,rfl,rfl,rfl,rfl,rfl,rfl⟩,⟨hp,d9,hd⟩,hk⟩:=hk;omega
   .exact hk.elim
 |succ dd ih=>
  have hT:aS env (aV 204 (Vu dd) (aV 147 (Vw dd) (aV 78 (Vv dd) b0O))):=aE (ih.2.2) (aE (ih.2.1) (aE (ih.1) (d5C)));refine⟨?_,?_,?_⟩
  .intro xs h Q hk;unfold Vv at hk;split at hk
   .rename_i id m c;obtain⟨l,s,⟨rfl,rfl⟩,⟨hp,hd⟩,hk⟩:=hk;refine aL hT (f7M dd id l s h Q) ?_;delta a9R xN vD a5E tI wW;obtain⟨hb,hw,hc,b6⟩:=hp;have lc:=Ss.len_cnt l;refine⟨⟨(0,h,s),KD,KD,KD,KD,⟨AR _,BW.refl hb⟩,KD⟩,?_⟩;rintro⟨i,g,s2⟩ _ ⟨hi,hx⟩;dsimp only at hi hx⊢;refine cV (λc=>?_) (λc=>hk s2 g (by rw [AJ JZ]at hx;exact hx));have D:i<l.length:=JZ;refine aP JZ (c8O D KB λk nm to n ak an a7 a8 X vk vn a3 a4 K L th el e=>?_);have h1:=Ss.cnt_mem (AG D);have b9:=Ss.wf_mem hw (AG D);have t1:=Ss.cost_take D;have t3:=Ss.cost_le (l:=l) (i+1);have l1:=hx.len;rw [e]at b9 h1 t1;exact⟨X,K,L,th,el,s2,⟨rfl,rfl,rfl,rfl,rfl,rfl,rfl,rfl,rfl,rfl⟩,⟨⟨hx.bh,⟨by rw [hx.f];exact b9,trivial⟩,by simp only [Ss.cnt];omega,by simp only [Ss.cost];omega⟩,JZ⟩,λG h3 y=>⟨(i+1,h3,G),KD,KD,(by(try dsimp only);rw [AA _ JZ];rfl),KD,⟨D,by dsimp only;rw [t1];exact hx.trans y⟩,(by(try dsimp only);omega)⟩⟩
   .exact hk.elim
  .intro xs h Q hk;unfold Vw at hk;split at hk
   .rename_i id k nm to n ak an a7 a8 am ac vk vn a3 a4 vm vc m c mt ct ml cl;obtain⟨X,K,L,th,el,s,⟨rfl,rfl,rfl,rfl,rfl,rfl,rfl,rfl,rfl,rfl⟩,⟨hp,hd⟩,hk⟩:=hk;refine aL hT (f7N dd id k nm to n ak an a7 a8 X vk vn a3 a4 K L th el s h Q) ?_;delta Tk a5H vD a5E gE Lh Ti iH M6 Ar Aq a5B a9N tV a9X B4 rX Ii a5F Y6 As a9O a5C tI wW iI; (try dsimp -iota -proj only);obtain⟨hb,hw,hc,b6⟩:=hp;have hn:qS s.f k nm to n (.mk ak an a7 a8 X) (.mk vk vn a3 a4 K) L th el:=hw.1.1;have d4:Ss.wf s.f th:=hw.1.2.1;have g1:Ss.wf s.f el:=hw.1.2.2;have h6:=uQ s.f;have c3:=hc;have d0:=b6;have b1:=hk;simp only [Ss.cnt,S.cnt,Ss.cost,S.cost]at c3 d0 hd b1;unfold qS at hn;rcases hn with⟨rfl,e1,rfl,rfl,ha,hv,rfl,rfl,rfl⟩| ⟨rfl,e1,rfl,rfl,ha,hv,rfl,rfl,rfl⟩| ⟨rfl,rfl,rfl,rfl,ha,hv,rfl⟩| ⟨rfl,rfl,rfl,rfl,ha,hv,rfl,rfl⟩| ⟨rfl,rfl,rfl,rfl,ha,hv,rfl,rfl,rfl⟩| ⟨rfl,e1,g8,rfl,ha,hv,c1,rfl,rfl⟩| ⟨rfl,rfl,rfl,⟨g5,d1⟩,ha,hv,rfl,rfl,rfl⟩
    .refine bt rfl ⟨Es.dp K+1,K,s,⟨rfl,rfl⟩,⟨hb,hv,AQ _,JZ⟩,λv h2 s2 x=>?_⟩;have b:=x.1.bh;have a9:=b.vl;exact aC b.g (kT rfl ⟨s2,b,λi hi=>⟨rfl,aP JZ (aC b.vr.2.2 (aA (Ms hi (by rw [AX,a9])) (b1 _ _ ((x.1.var JZ).le JZ))))⟩⟩)
    .refine bf rfl (bt rfl ⟨Es.dp X+1,X,s,⟨rfl,rfl⟩,⟨hb,ha,AQ _,JZ⟩,λv h2 s2 x=>?_⟩);have nA:=x.1.len;refine⟨Es.dp K+1,K,s2,⟨rfl,rfl⟩,⟨x.1.bh,by rw [x.1.f];exact hv,AQ _,JZ⟩,λv2 h3 G x2=>?_⟩;have y:=x.trans x2;have nB:=y.1.len;refine⟨G,y.1.bh,λi hi=>⟨G,⟨y.1.bh,JZ,JZ⟩,λh4 s4 x3=>?_⟩⟩;have y:=y.trans x3;exact aC y.1.bh.g (cW rfl (y.put [_,v,v2] JZ (hm:=by unfold bE;omega) λv3 h5 s5 y=>aC y.1.bh.g (aA rfl (b1 _ _ ((y.st v3).1.le JZ)))))
    .refine bf rfl (bf rfl (bf rfl (bf rfl (bf rfl (bt rfl ⟨Es.dp K+1,K,s,⟨rfl,rfl⟩,⟨hb,hv,AQ _,JZ⟩,λv h2 s2 x=>?_⟩)))));have y:=x.1;have nA:=y.len;have a9:=y.bh.vl;have g3:=y.vl;have hf:=y.f;refine aC y.bh.g (cW rfl (aC y.bh.g (kT rfl (aC y.bh.vr.2.2 (aA ?_ (bf ?_ (aA ?_ ?_)))))))
     .rw [BB,AX];omega
     .rw [Ev];omega
     .rw [BB];omega
     rw [d6U,AY s2.vs.length];have y1:=y.push (o:= .cells (s2.vs.map (IV.int .i64)));refine⟨th,s2,⟨rfl,rfl⟩,⟨⟨y1.bh,by rw [hf];exact d4,JZ,JZ⟩,JZ⟩,λG h3 x3=>?_⟩;have R:=y1.trans x3;have n2:=R.len;refine aC R.bh.g (kT rfl (aC R.bh.g (cW rfl (aC R.bh.g (aA rfl (aC aH (aA rfl ?_)))))));have a1:=y.bh.lt;obtain⟨b4,b5,_⟩:=y.bh.vr;have g0:h3.get h2.next= .cells (s2.vs.map (IV.int .i64)):=x3.fv.cl _ _ (AQ _) (DL a1) (DL b4) aW;have y4:=(R.st s2.st).row (j:=h2.next) (ws:=s2.vs) ⟨AU (AQ _) x3.fv.nx,y.fv.nx⟩ hb.lt ((aG (DL a1)).trans g0) (by dsimp only;rw [x3.f];exact a9);obtain⟨c4,c5,c6⟩:=R.bh.vr;have b3:G.iv≠h2.next:=by
      have h7:G.iv=s2.iv\/h2.next+1<=G.iv:=x3.iv;omega
     have b8:=R.bh.vl;rw [R.f]at b8;refine⟨el,_,⟨rfl,rfl⟩,⟨⟨y4.bh,by dsimp only;rw [R.f];exact g1,JZ,KE⟩,JZ⟩,λs5 h5 x5=>?_⟩;have g2:s5.iv=h2.next\/h3.next<=s5.iv:=x5.iv;refine⟨⟨(0,h5,s5,v,G.iv,G.st),KD,KD,by rw [b8],KD,KD,KD,⟨(y4.trans x5).le (by simp only [S.cost];omega),AR _,⟨c5,(by(try dsimp only);omega),AU c4 x5.fv.nx⟩,G.vs,x5.fv.cl _ _ c4 c5 b3 ((aG c5).trans ((aG c5).trans c6)),b8⟩,KD⟩,?_⟩;rintro⟨i,g,s6,c,ja,u⟩ _ ⟨y,hi,⟨j1,j2,j3⟩,ws,d5,T⟩;dsimp only at y hi j1 j2 j3 d5⊢;have n6:=y.len;have v6:=y.bh.vl;rw [y.f]at v6;simp only [S.cost]at n6;refine aC y.bh.g (kT rfl (cV (λci=>?_) (λci=>?_)))
     .have D:i<s6.vs.length:=JZ;have f7:i<ws.length:=JZ;refine aC y.bh.g (kT rfl (aP JZ (aC d5 (ldR f7 (aC y.bh.g (kT rfl (aP JZ (aC y.bh.vr.2.2 (ldR D ⟨s6,⟨y.bh,JZ⟩,λv7 h7 s7 x7=>?_⟩)))))))));have y7:=y.trans x7.1;have e7:=y7.vl;have i7:=x7.2;exact⟨y.bh.same x7.1.bh x7.1.f i7,aP JZ (aC (x7.1.bh.row i7) (aA (Ms D (by rw [AX];omega)) ⟨(i+1,_,{s7 with vs:=s7.vs.set i v7 },c,ja,u),KD,KD,KD,KD,(by(try dsimp only);rw [AA _ JZ];rfl),rfl,⟨(y7.var JZ i7).le (by(try dsimp only);omega),(by(try dsimp only);omega),⟨j1,(by(try dsimp only);omega),AU j3 x7.1.fv.nx⟩,ws,(aG j2).trans (x7.1.fv.cl _ _ j3 j1 j2 d5),T⟩,(by(try dsimp only);omega)⟩))⟩
     .exact aC y.bh.g (cW rfl ⟨s6,⟨y.bh,JZ⟩,λv7 h7 s7 x7=>aC x7.1.bh.g (aA rfl (b1 _ _ (((y.trans x7.1).st v7).le (by simp only [S.cost];omega))))⟩)
    .exact bf rfl (bf rfl (bf rfl (bf rfl (bf rfl (bf rfl (bt rfl ⟨X,K,[],th,[],s,⟨rfl,rfl,rfl,rfl,rfl,rfl,rfl,rfl,rfl,rfl⟩,⟨⟨hb,hw,hc,b6⟩,rfl,by simp only [S.cnt];omega⟩,hk⟩))))))
    .exact bf rfl (bf rfl (bt rfl ⟨Es.dp K+1,K,s,⟨rfl,rfl⟩,⟨hb,hv,AQ _,JZ⟩,λv h2 s2 x=>aC x.1.bh.g (cW rfl (x.put [_,v] JZ λv3 h5 s5 y=>aC y.1.bh.g (aA rfl (b1 _ _ ((y.st v3).1.le JZ)))))⟩))
    .refine bf rfl (bf rfl (bf rfl (bf rfl (bt rfl ?_))));have g4:1<=L.length/\L.length<=2:=JZ;refine⟨⟨⟨(0,h,s,.nilslice,[]),KD,KD,KD,KD,KD,KD,⟨(BW.refl hb).le (AR _),rfl,⟨rfl,AR _⟩,.inl ⟨rfl,rfl,rfl⟩⟩,KD⟩,?_⟩,?_⟩
     .rintro⟨i,g,s2,A,l⟩ _ ⟨y,b3,⟨hl,hi⟩,r⟩;dsimp only at y b3 hl hi r⊢;refine cV (λci=>?_) (λci=>?_)
      .have D:i<L.length:=JZ;have t1:=Es.cost_take D;have t2:=Es.cost_le (l:=L) (i+1);have n2:=y.len;refine aP JZ (Ly D KB λk1 n1 m1 o1 q e=>?_);rw [e]at t1;have b9:=Es.wf_mem c1 (AG D);rw [e]at b9;refine⟨Es.dp q+1,q,s2,⟨rfl,rfl⟩,⟨y.bh,by rw [y.f];exact b9,AQ _,JZ⟩,λv h2 G x=>(y.trans x.1).app (r.fv x.1.fv) JZ λj h3 t r2=>⟨(i+1,h3,G,_,l++ [v]),KD,KD,KD,(by(try dsimp only);rw [AA _ JZ];rfl),KD,KD,⟨(t.bw (y.trans x.1)).le (by(try dsimp only);omega),x.2.trans b3,⟨by rw [AI,hl];rfl,D⟩,?_⟩,(by(try dsimp only);omega)⟩⟩;have e2:(l++ [v]).length=l.length+1:=AI;dsimp only;rw [e2,BY];exact r2
      .have R:=y.le (d:=Es.cost L) (by rw [AJ JZ];exact AF _);rcases r with⟨_,r,_⟩|r| ⟨j,r,_⟩
       .omega
       .exact⟨(none,1,g,s2,l),KD,KD,congrArg (λx=>some (TV.v x)) r,KD,KD,⟨⟨R,b3⟩,KE⟩,KD⟩
       .exact⟨(some j,l.length*1,g,s2,l),KD,KD,congrArg (λx=>some (TV.v x)) r,KD,KD,⟨⟨R,b3⟩,KE⟩,KD⟩
     .rintro⟨i,e,g,s2,l⟩ _ ⟨⟨y,b3⟩,hl,f6⟩;dsimp only at y b3 hl f6⊢;refine aC y.bh.g (jK rfl (jK rfl ⟨⟨rfl,rfl⟩,y.bh.pp.q,λr hr=>aC y.bh.g (cW rfl (aB (λc=>absurd (bT.1 c) JZ) λ_=>aA (by rw [BB];omega) ?_))⟩));have z:=y.push (o:= .tip ((1+l.length)*1));rw [JS 1 l.length]at z⊢;refine z.put (s2.st::l) JZ (ho:=by decide) (hm:=hr) (hk:=by simp only [AS];omega) λv h2 G y e3 f3=>?_
      have R:=y.st v;refine aC y.bh.g (aA rfl (aC aH (kT rfl (aC aH (cW rfl ⟨_,R.bh,λi hi=>?_⟩)))));have a9:=R.bh.vl;dsimp only at hi a9;refine⟨rfl,rfl,R.put [_] JZ λv4 h4 s4 y3 e4 f4=>?_⟩;have e7:=y3.vl;have e8:G.vs.length=_:=R.vl;exact⟨R.bh.same y3.bh (y3.f.trans R.f.symm) e4,aP (by(try dsimp only);omega) (aC (y3.bh.row e4) (aA (Ms (n:=s4.vs.length) JZ (by rw [AX])) (b1 _ _ ((y3.var JZ e4).le JZ))))⟩
    .refine bf rfl (bf rfl (bf rfl (bt rfl ?_)));exact(BI.refl hb).put [] JZ λv h2 s2 y=>aC y.1.bh.g (cW rfl (y.put [_,v] JZ (hm:=Y3 _) λv3 h5 s5 y=>aC y.1.bh.g (aA rfl (b1 _ _ ((y.st v3).1.le JZ)))))
   .exact hk.elim
  .intro xs h Q hk;unfold Vu at hk;split at hk
   .rename_i id k nm to n ak an a7 a8 am ac vk vn a3 a4 vm vc m c mt ct ml cl;obtain⟨X,K,L,th,el,s,⟨rfl,rfl,rfl,rfl,rfl,rfl,rfl,rfl,rfl,rfl⟩,⟨hp,d9,hd⟩,hk⟩:=hk;refine aL hT (f7J dd id k nm to n ak an a7 a8 X vk vn a3 a4 K L th el s h Q) ?_;delta Ti Tk gE a5F fN Y6 tX Bz Aq a5B vD a5E rW kK qP gD Y5 lW xM a5H nE oJ tW mZ gG T2 Zl oV a5G tI wW iI; (try dsimp -iota -proj only);obtain⟨hb,hw,hc,b6⟩:=hp;subst d9;have hn:qS s.f 4 nm to n (.mk ak an a7 a8 X) (.mk vk vn a3 a4 K) L th el:=hw.1.1;have d4:Ss.wf s.f th:=hw.1.2.1;have hv:E.wf s.f (.mk vk vn a3 a4 K):=by
     unfold qS at hn;rcases hn with h|h|h|h|h|h|h<;>first|exact h.2.2.2.2.2.1|exact absurd h.1 KA
    have h6:=uQ s.f;have c3:=hc;have d0:=b6;have b1:=hk;simp only [Ss.cnt,S.cnt,Ss.cost,S.cost]at c3 d0 hd b1;refine⟨?_,?_,?_,trivial⟩
    .refine aC hb.g (cW rfl (aC hb.g (cW rfl (aC hb.g (aA rfl ?_)))));have y0:=(BW.refl hb).lo (v:=IntKind.i64.wrap (s.lo+1)) (Y3 _);refine⟨Es.dp K+1,K,_,⟨rfl,rfl⟩,⟨y0.bh,hv,AQ _,(by(try dsimp only);omega)⟩,λv h2 G x=>?_⟩;have y:=y0.trans x.1;have nA:=y.len;have a9:=y.vl;refine aC y.bh.g (kT rfl (aA (by simp only [AE,decide_eq_true_eq];omega) ?_));rw [AK,e2H];have a0:AsP (h2.push (.cells ((List.replicate G.vs.length false).map IV.bool))) id h2.next G (List.replicate G.vs.length false):=⟨y.bh.push,by rw [DR];exact y.bh.vl,aW,AQ _,DL y.bh.lt,DL y.bh.vr.1⟩;refine⟨Ss.cnt th+1,th,G,_,⟨rfl,rfl,y.bh.vl⟩,a0,⟨AQ _,JZ⟩,λe9 h3 a1 f1=>⟨⟨⟨0,h3,G,v,h2.next,e9,[],.nilslice,none,0,0,[],0,[],.nilslice,0,0⟩,KD,KD,KD,KD,(by rw [y.vl]),KD,KD,KD,KD,⟨(y.push.asg a0 a1 f1 y.fv.nx).le JZ,a1,y.fv.nx,AR _,⟨(λq hq=>by cases hq),AR _⟩,.inl ⟨rfl,rfl,rfl⟩⟩,KD⟩,?_⟩⟩;clear y nA a9 a0 a1 f1 x;rintro⟨i,g,G,c,jn,Y,w,W,iW,Z,jo,vo,a,ks,KS,jk,lp⟩ _ ⟨y,ha,c9,hi,⟨O,T⟩,r⟩;dsimp only at y ha c9 hi O T r⊢;have f0:=ha.bl;rw [y.f]at f0;have n2:=y.len;have a9:=y.vl;refine cV (λci=>?_) (λci=>?_)
     .have D:i<Y.length:=JZ;refine aP JZ (aC ha.bg (f4O (b:=Y[i]) (by rw [AY,AK,AM,BJ,AB D];rfl) (bx (y.app r JZ λj h4 t r2=>?_) ⟨⟨i+1,g,G,c,jn,Y,w,W,iW,Z,jo,vo,a,ks,KS,jk,lp⟩,KD,KD,KD,KD,KD,KD,(by(try dsimp only);rw [AA _ JZ];rfl),KD,KD,⟨y,ha,c9,(by(try dsimp only);omega),⟨O,(by(try dsimp only);omega)⟩,r⟩,(by(try dsimp only);omega)⟩)));have e2:(w++ [(i:Int)]).length=w.length+1:=AI;refine⟨⟨i+1,h4,G,c,jn,Y,w++ [(i:Int)],_,iW,Z,jo,vo,a,ks,KS,jk,lp⟩,KD,KD,KD,KD,KD,KD,(by(try dsimp only);rw [AA _ JZ];rfl),KD,KD,⟨t.bw y,t.am ha,c9,(by(try dsimp only);omega),⟨λq hq=>?_,KE⟩,by dsimp only;rw [e2,BY];exact r2⟩,(by(try dsimp only);omega)⟩;rcases BZ.1 hq with hq|hq
      .exact O q hq
      .rw [BU.1 hq];omega
     .refine aC y.bh.g (kT rfl (aC y.bh.vr.2.2 (aA ?_ (bf ?_ (aA ?_ ?_)))))
      .rw [BB,AX];omega
      .rw [Ev];omega
      .rw [BB];omega
      rw [d6U,AY G.vs.length];have R:=y.push (o:= .cells (G.vs.map (IV.int .i64)));have c8:g.next≠id:=DL y.bh.lt;have h8:=y.bh.vr.1;refine aC R.bh.g (cW rfl (R.put [] JZ (hm:=Y3 _) λv h4 s4 y4 e4 f4=>aC y4.bh.g (aA rfl ⟨?_,?_,?_⟩)))
      .have P: ∀W iW Z,LoP2 h id s ⟨0,h4.set id (.cells ({s4 with st:=v } :BSt).cells),{s4 with st:=v },c,jn,Y,w,W,iW,Z,g.next,G.vs,G.st,[G.st],.vslice none 1 1 1 [.int .i64 G.st],jk,lp⟩ 0 (.mk vk vn a3 a4 K):=λ_ _ _=>⟨(y4.st v).le JZ,⟨O,KE⟩,AR _,⟨(aG c8).trans (f4.cl _ _ (AQ _) c8 c8 aW),y.fv.nx,AU (AQ _) f4.nx,KE,a9⟩,rfl,.inr (.inl rfl)⟩
       rcases r.wf (x:=⟨i,g,G,c,jn,Y,w,W,iW,Z,jo,vo,a,ks,KS,jk,lp⟩)with⟨hW,ew⟩| ⟨i2,e2,hW⟩
       .exact .inl ⟨⟨0,_,_,c,jn,Y,w,W,iW,Z,g.next,G.vs,G.st,[G.st],_,jk,lp⟩,KD,KD,KD,KD,(by rw [y.vl]),KD,KD,KD,(congrArg (λx=>some (TV.v x)) hW),KD,KD,⟨ew,P _ _ _⟩,KD⟩
       .exact .inr ⟨⟨0,_,_,c,jn,Y,w,W,i2,e2,g.next,G.vs,G.st,[G.st],_,jk,lp⟩,KD,KD,KD,KD,(by rw [y.vl]),KD,KD,KD,(congrArg (λx=>some (TV.v x)) hW),KD,KD,P _ _ _,KD⟩
      .rintro⟨j,g,G,c,jn,Y,w,W,iW,Z,jo,vo,a,ks,KS,jk,lp⟩ _ ⟨ew,P⟩;have ew:w=[]:=ew;subst ew;have hj:j<=0:=P.le;obtain rfl:j=0:=JZ;exact⟨⟨0,g,G,c,jn,Y,[],.nilslice,iW,Z,jo,vo,a,ks,KS,jk,lp⟩,KD,KD,KD,KD,KD,KD,KD,KD,KD,KD,⟨.inl ⟨rfl,rfl⟩,P.w _ _⟩,KD⟩
      .rintro⟨j,g,G,c,jn,Y,w,W,iW,Z,jo,vo,a,ks,KS,jk,lp⟩ _ P;have P2:=P;obtain⟨y,⟨O,T⟩,a6,⟨b0,a2,V,a5,b2⟩,kl,r⟩:=P2;dsimp only at y O T a6 b0 a2 V a5 b2 kl r⊢;refine cV (λci=>?_) (λci=>?_)
       .have n2:=y.len;have D:j<w.length:=JZ;have hq:=O w[j] (AG D);obtain⟨q,eq⟩: ∃q:Nat,w[j]=(q:Int):=⟨w[j].toNat,(FX hq.1).symm⟩
        rw [eq]at hq;have f9:q<vo.length:=JZ;refine aP JZ (ldW D eq (aP JZ (aC b0 (ldR f9 (y.app r JZ λj2 h4 t r2=>?_)))));have R:=t.bw y;have g9:=R.vl;have c7:=hb.lt;obtain⟨d6,g6⟩:=t.cl V b0;refine aC R.bh.g (kT rfl (aP JZ (ldW D eq (R.put [] JZ (hm:=Y3 _) λv h5 s5 y3 e3 f3=>?_))));have h0:=y3.vl;have e2:(ks++ [vo[q]]).length=ks.length+1:=AI;exact⟨R.bh.same y3.bh (y3.f.trans R.f.symm) e3,aP JZ (aC (y3.bh.row e3) (aA (Ms (n:=s5.vs.length) JZ (by rw [AX])) (.inr ⟨⟨j+1,_,{s5 with vs:=s5.vs.set q v },c,jn,Y,w,W,iW,Z,jo,vo,a,ks++ [vo[q]],_,jk,lp⟩,KD,KD,KD,KD,KD,KD,KD,(by(try dsimp only);rw [AA _ JZ];rfl),KD,KD,KD,⟨(y3.var JZ e3).le (by(try dsimp only);omega),⟨O,T⟩,D,⟨(aG a5).trans (f3.cl _ _ JZ JZ JZ d6),a2,by have:=f3.nx;show jo<h5.next;omega,KE,b2⟩,KE,by dsimp only;rw [e2,BY];exact(r2.fv f3).fv (FV.refl.put (iv:=G.iv) (id:=id) (y3.bh.row e3) (by have:=y.bh.vr.2.1;omega) (.inl rfl))⟩,(by(try dsimp only);omega)⟩)))⟩
       .obtain rfl:j=w.length:=JZ;exact⟨⟨0,g,G,c,jn,Y,w,.vslice iW Z w.length 1 (w.map (IV.int .i64)),iW,Z,jo,vo,a,ks,KS,jk,lp⟩,KD,KD,KD,KD,KD,KD,KD,KD,KD,KD,⟨.inr ⟨_,_,rfl⟩,P.w _ _⟩,KD⟩
    .rintro⟨_,g,G,c,jn,Y,w,W,iW,Z,jo,vo,a,ks,KS,jk,lp⟩ _ ⟨b7,y,⟨O,T⟩,a6,⟨b0,a2,V,a5,b2⟩,kl,r⟩;dsimp only at b7 y O T a6 b0 a2 V a5 b2 kl r⊢;have n2:=y.len;have c7:=hb.lt;refine⟨th,G,⟨rfl,rfl⟩,⟨⟨y.bh,by rw [y.f];exact d4,JZ,JZ⟩,JZ⟩,λs4 h2 xb=>?_⟩;have R:=y.trans xb;have n3:=R.len;refine⟨Es.dp K+1,K,s4,⟨rfl,rfl⟩,⟨R.bh,by rw [R.f];exact hv,AQ _,JZ⟩,λv h3 s5 x=>?_⟩;have y3:=R.trans x.1;have n4:=y3.len;have h9:s4.iv=G.iv\/g.next<=s4.iv:=xb.iv;have g2:=x.2;have d1:=xb.fv.nx;have f8:=x.1.fv.nx;have d7:=x.1.fv.cl _ _ (AU V d1) JZ JZ (xb.fv.cl _ _ V JZ a5 b0);refine aC y3.bh.g (cW rfl (y3.app ((r.fv xb.fv).fv x.1.fv) JZ λj h4 t r4=>?_));obtain⟨d8,g7⟩:=t.cl (AU V (CG d1 f8)) d7;have e2:(ks++ [v,s5.st]).length=ks.length+2:=AI;have P: ∀W iW Z,LoP3 h id s ⟨0,h4,s5,c,jn,Y,w,W,iW,Z,jo,vo,a,ks++ [v,s5.st],KS,j,lp⟩ 0 (.mk 4 nm to n (.mk ak an a7 a8 X) (.mk vk vn a3 a4 K) L th el):=λ_ _ _=>⟨(t.bw y3).le (by simp only [S.cost];omega),⟨O,T⟩,AR _,⟨d8,a2,by show jo<h4.next;omega,KE,b2⟩,KE,by
      obtain⟨t1,t2,t3,t4⟩:=r4.row;exact⟨by dsimp only;rw [e2,t1,AM],t2,t3,t4⟩⟩
     refine⟨?_,?_,?_⟩
     .rcases b7 with⟨hW,ew⟩| ⟨i2,c0,hW⟩
      .exact .inl ⟨⟨0,_,s5,c,jn,Y,w,W,iW,Z,jo,vo,a,ks++ [v,s5.st],KS,j,lp⟩,KD,KD,KD,KD,KD,KB,KD,(congrArg (λx=>some (TV.v x)) hW),KD,⟨ew,P _ _ _⟩,KD⟩
      .exact .inr ⟨⟨0,_,s5,c,jn,Y,w,W,i2,c0,jo,vo,a,ks++ [v,s5.st],KS,j,lp⟩,KD,KD,KD,KD,KD,KB,KD,(congrArg (λx=>some (TV.v x)) hW),KD,P _ _ _,KD⟩
     all_goals clear P
     .rintro⟨j,g,G,c,jn,Y,w,W,iW,Z,jo,vo,a,ks,KS,jk,lp⟩ _ ⟨ew,P⟩;have ew:w=[]:=ew;subst ew;have hj:j<=0:=P.le;obtain rfl:j=0:=JZ;exact⟨⟨0,g,G,c,jn,Y,[],.nilslice,iW,Z,jo,vo,a,ks,KS,jk,lp⟩,KD,KD,KD,KD,KD,KD,KD,KD,⟨.inl ⟨rfl,rfl⟩,P.w _ _⟩,KD⟩
     .rintro⟨j,g,G,c,jn,Y,w,W,iW,Z,jo,vo,a,ks,KS,jk,lp⟩ _ P;have P2:=P;obtain⟨y,⟨O,T⟩,a6,JO,kl,⟨ht,e6,c2,d2⟩⟩:=P2;dsimp only at y O T a6 kl ht e6 c2 d2⊢;refine cV (λci=>?_) (λci=>?_)
      .have D:j<w.length:=JZ;have hq:=O w[j] (AG D);obtain⟨q,eq⟩: ∃q:Nat,w[j]=(q:Int):=⟨w[j].toNat,(FX hq.1).symm⟩
       rw [eq]at hq;have a9:=y.vl;have d3:q<G.vs.length:=JZ;have e2:(ks++ [G.vs[q]]).length=ks.length+1:=AI;refine aC y.bh.g (kT rfl (aP JZ (ldW D eq (aP JZ (aC y.bh.vr.2.2 (ldR d3 (bB ht (aA (by simp only [AE,bT,BB,true_and];omega) (.inr ⟨⟨j+1,_,G,c,jn,Y,w,W,iW,Z,jo,vo,a,ks++ [G.vs[q]],KS,jk,lp⟩,KD,KD,KD,KD,KD,KB,(by(try dsimp only);rw [AA _ JZ];rfl),KD,KD,⟨y.grow ht c2 d2,⟨O,T⟩,D,⟨(aG (λe=>by have:=JO.1;rw [show jo=jk from e,ht]at this;cases this)).trans JO.1,JO.2⟩,KE,by dsimp only;rw [e2];exact⟨aH,e6,c2,d2.set (y.bh.ne ht)⟩⟩,(by(try dsimp only);omega)⟩)))))))))
      .obtain rfl:j=w.length:=JZ;exact⟨⟨0,g,G,c,jn,Y,w,.vslice iW Z w.length 1 (w.map (IV.int .i64)),iW,Z,jo,vo,a,ks,KS,jk,lp⟩,KD,KD,KD,KD,KD,KD,KD,KD,⟨.inr ⟨_,_,rfl⟩,P.w _ _⟩,KD⟩
    .rintro⟨_,g,G,c,jn,Y,w,W,iW,Z,jo,vo,a,ks,KS,jk,lp⟩ _ ⟨b7,y,⟨O,T⟩,a6,⟨b0,a2,V,a5,b2⟩,kl,_⟩;dsimp only at b7 y O T a6 b0 a2 V a5 b2 kl⊢;have n2:=y.len;have c7:=hb.lt;simp only [S.cost]at n2;refine y.put ks (by simp only [S.cost];omega) (hm:=hb.hl) (hk:=by omega) λv h3 s4 y3 e3 f3=>?_
     have y4:=y3.row (j:=jo) (ws:=vo) ⟨AU V f3.nx,a2⟩ c7 (f3.cl _ _ V JZ JZ b0) (by rw [b2,y3.f]);rw [<-b2];refine aC y3.bh.g (aA rfl (y4.put [_] (by simp only [S.cost];omega) λv1 h4 s5 y5 e5 f5=>?_));have n5:=y5.len;simp only [S.cost]at n5;refine⟨s5,⟨y5.bh,JZ⟩,λv2 h5 s6 x=>?_⟩;have y6:=(y5.trans x.1).st v2;refine aC x.1.bh.g (aA rfl ⟨?_,?_,?_⟩)
     .have P: ∀W iW Z,LoP4 h id s ⟨0,_,{s6 with st:=v2 },c,jn,Y,w,W,iW,Z,jo,vo,a,ks,KS,jk,v⟩ 0 (.mk 4 nm to n (.mk ak an a7 a8 X) (.mk vk vn a3 a4 K) L th el):=λ_ _ _=>⟨y6.le (by simp only [S.cost];omega),⟨O,T⟩,AR _,(x.2.trans e5).symm⟩
      rcases b7 with⟨hW,ew⟩| ⟨i2,c0,hW⟩
      .exact .inl ⟨⟨0,_,_,c,jn,Y,w,W,iW,Z,jo,vo,a,ks,KS,jk,v⟩,KD,KD,KD,KD,KD,(congrArg (λx=>some (TV.v x)) hW),KD,⟨ew,P _ _ _⟩,KD⟩
      .exact .inr ⟨⟨0,_,_,c,jn,Y,w,W,i2,c0,jo,vo,a,ks,KS,jk,v⟩,KD,KD,KD,KD,KD,(congrArg (λx=>some (TV.v x)) hW),KD,P _ _ _,KD⟩
     all_goals clear y6 x y5 y4 y3
     .rintro⟨j,g,G,c,jn,Y,w,W,iW,Z,jo,vo,a,ks,KS,jk,lp⟩ _ ⟨ew,y,⟨O,T⟩,a6,ej⟩;have ew:w=[]:=ew;subst ew;dsimp only [List.length_nil]at y a6;exact hk _ _ (y.le (by simp only [S.cost];omega))
     .rintro⟨j,g,G,c,jn,Y,w,W,iW,Z,jo,vo,a,ks,KS,jk,lp⟩ _ ⟨y,⟨O,T⟩,a6,ej⟩;dsimp only at y O T a6 ej⊢;refine cV (λci=>?_) (λci=>hk _ _ (y.le (by simp only [S.cost];omega)));have n2:=y.len;simp only [S.cost]at n2;have D:j<w.length:=JZ;have hq:=O w[j] (AG D);obtain⟨q,eq⟩: ∃q:Nat,w[j]=(q:Int):=⟨w[j].toNat,(FX hq.1).symm⟩
      rw [eq]at hq;refine y.put [_] (by simp only [S.cost];omega) (hm:=Y3 _) λv h2 s4 R e2 f2=>?_
      have v2:=R.vl;have n4:=R.len;simp only [S.cost]at n4;have d3:q<s4.vs.length:=JZ;refine aC R.bh.g (kT rfl (aP JZ (ldW D eq (aP JZ (ldW D eq (aP JZ (aC (R.bh.row (e2.trans ej.symm)) (ldR d3 ⟨s4,⟨R.bh,JZ⟩,λv3 h3 s5 x=>?_⟩))))))));have y3:=R.trans x.1;have i0:=y3.vl;exact⟨R.bh.same x.1.bh x.1.f x.2,aP JZ (aC (x.1.bh.row x.2) (aA (Ms (n:=s5.vs.length) JZ (by rw [AX])) (.inr ⟨⟨j+1,_,{s5 with vs:=s5.vs.set q v3 },c,jn,Y,w,W,iW,Z,jo,vo,a,ks,KS,jk,lp⟩,KD,KD,KD,KD,(by(try dsimp only);rw [AA _ JZ];rfl),KD,KD,⟨(y3.var JZ x.2).le (by simp only [S.cost];omega),⟨O,T⟩,D,(x.2.trans (e2.trans ej.symm)).symm⟩,(by(try dsimp only);omega)⟩)))⟩
   .exact hk.elim
def e7R:=aV 78 (λxs h K=> ∃d,Vv d xs h K) b0O
theorem e8S:aS env e7R:=aE (λxs h Q hk=>hk.elim λd hk=>(gBd d).1 xs h Q hk) (d5C)
def e7S:=aV 147 (λxs h K=> ∃d,Vw d xs h K) e7R
theorem e8T:aS env e7S:=aE (λxs h Q hk=>hk.elim λd hk=>(gBd d).2.1 xs h Q hk) (e8S)
def d7S:=aV 204 (λxs h K=> ∃d,Vu d xs h K) e7S
theorem d5E:aS env d7S:=aE (λxs h Q hk=>hk.elim λd hk=>(gBd d).2.2 xs h Q hk) (e8T)
def lwO(g i:Y14)(h:Heap):Inv':=(dL (Heap×Nat×IV×Y14) (λx=>[(1,.l 1 0),(2,.l 2 0),(5,.l 5 0),(6,.v (.int .i64 (x.2.1:Int)))]) (λx=>[(1,[.vslice none 0 2 2 g,.vslice none 0 2 9 i]),(2,[.nilslice,.nilslice]),(5,[.vslice (some 0) 4 2 2 g,x.2.2.1])]) (λx=>x.1) (λx=>LwO x.1 x.2.1 x.2.2.1 x.2.2.2) (λx=>(2-x.2.1)*100))
def lwF(g i:Y14)(h:Heap):Inv':=(dL (Heap×Nat×Y14) (λx=>[(1,.l 1 0),(2,.l 2 0),(5,.l 5 0)]) (λx=>[(1,[.vslice none 0 2 2 g,.vslice none 0 2 9 i]),(2,[.nilslice,.nilslice]),(5,[.vslice (some 0) 4 2 2 g,.vslice (some x.2.1) (2*5) 2 5 x.2.2])]) (λx=>x.1) (λx=>a1W x.2.2) (λx=>0))
def lwP(g j:Y14)(h:Heap):Inv':=(dL (Heap×Nat×LwS×FnD) (λx=>[(1,.l 1 0),(2,.l 2 0),(5,.l 5 0),(6,.v (.int .i64 (x.2.2.2.i:Int))),(7,.l 7 0),(8,.v (.ptr x.2.2.2.id 0)),(9,.v (.int .i64 (x.2.1:Int)))]) (λx=>[(1,[.vslice none 0 2 2 g,.vslice none 0 2 9 j]),(2,[.nilslice,.nilslice]),(5,[.vslice (some 0) 4 2 2 g,x.2.2.2.F]),(7,x.2.2.2.fn)]) (λx=>x.1) (λx=>LwP g j x.1 x.2.1 x.2.2.2 x.2.2.1) (λx=>(2-x.2.2.2.i)*100-50+(x.2.2.2.pc.length-x.2.1)))
def lwQ(g j:Y14)(h:Heap):Inv':=(dL (Heap×Nat×LwS×FnD) (λx=>[(1,.l 1 0),(2,.l 2 0),(5,.l 5 0),(6,.v (.int .i64 (x.2.2.2.i:Int))),(7,.l 7 0),(8,.v (.ptr x.2.2.2.id 0)),(10,.v (.int .i64 (x.2.1:Int)))]) (λx=>[(1,[.vslice none 0 2 2 g,.vslice none 0 2 9 j]),(2,[.nilslice,.nilslice]),(5,[.vslice (some 0) 4 2 2 g,x.2.2.2.F]),(7,x.2.2.2.fn)]) (λx=>x.1) (λx=>LwQ g j x.1 x.2.1 x.2.2.2 x.2.2.1) (λx=>(2-x.2.2.2.i)*100-90+(x.2.2.2.lc.length-x.2.1)))
def d9P(xs:Y14)(h:Heap)(K:KT):Prop:=match xs with
 | [.agg [.vslice none 0 na 2 ac,.vslice none 0 nf 9 fc]]=>vR ac fc/\(na=2/\nf=2)/\∀(g:Y14),a1W g->K (.tuple [.agg [.vslice none 0 2 2 ac,.vslice none 0 2 5 g],.int .i64 0]) h
 |_=>False
def Z2(g:Heap×Nat×LwS×FnD):=g.2.2.2
def yU(x:Heap×Nat×IV×Y14):=x.2.1
def e5Z(g i:Y14):=IObj.cells [IV.vslice none 0 2 2 g,IV.vslice none 0 2 9 i,IV.nilslice,IV.nilslice,IV.nilslice,iI 0,iI 0]
def Ty(g:Heap×Nat×LwS×FnD):=g.2.2.2
def d3A(g i:Y14):=[IV.vslice none 0 2 2 g,IV.vslice none 0 2 9 i]
def Zr:=some (0:Nat)
def d3B(g:Y14)(x:Heap×Nat×IV×Y14):=[IV.vslice Zr 4 2 2 g,x.2.2.1]
def Zq(g:Heap×Nat×LwS×FnD):=g.2.2.2
def a5S:=TV.l 1 0
def e6A(g:Y14)(i:Heap×Nat×Y14):=[IV.agg [.vslice none 0 2 2 g,IV.vslice none 0 2 5 i.2.2],iI 0]
def c6K:=[IV.nilslice,IV.nilslice]
def c6L:=TV.l 2 0
def c6M:=TV.l 5 0
def Tl(g:Prop):Prop:=some a5S=some a5S/\some c6L=some c6L/\some c6M=some c6M/\g
def Ij(l:Y14)(m:Y14)(g:Y14)(i:Y14)(j:Prop):Prop:=some (d3A l m)=some (d3A l m)/\some c6K=some c6K/\some g=some i/\j
def fS(g:Heap×Nat×LwS×FnD):=FnD.id g.2.2.2
def oK(g:Heap×Nat×LwS×FnD):List (Y11):=FnD.pc g.2.2.2
def pX(g:Heap×Nat×LwS×FnD):List (Y11):=FnD.lc g.2.2.2
def E2(g:Heap×Nat×LwS×FnD):List S:=FnD.b g.2.2.2
def E3(g:Heap×Nat×LwS×FnD):List E:=FnD.eks g.2.2.2
def a5L(A:Y14)(G:Y14)(j:Int)(g:Heap×Nat×LwS×FnD)(m:IV)(r:Int)(u:Y14)(D:Y11)(y:Y14)(z:Prop):Prop:=some c6L=some c6L/\some c6M=some c6M/\tI j=tI (↑(FnD.i (Zq g)):Int)/\some (TV.l 7 0)=some (TV.l 7 0)/\some (TV.v m)=some (TV.v (.ptr (fS g) 0))/\tI r=tI (g.2.1:Int)/\Ij A G u [IV.vslice Zr 4 2 2 A,FnD.F (Zq g)] (some y=some [IV.str
 (FnD.nm (Zq g)),IV.vslice none 1 ((oK g).length) 1 (List.map IV.str (oK g)),IV.vslice none 1 ((pX g).length) 1 (List.map IV.str (pX g)),IV.vslice none 0 ((E2 g).length) 17 (bI (E2 g)),iI (FnD.ek (Zq g)),iI (FnD.en (Zq g)),
 IV.str (FnD.enm (Zq g)),iI (FnD.eop (Zq g)),IV.vslice none 0 ((E3 g).length) 5 (bP (E3 g))]/\z)
def vE(g:Heap×Nat×LwS×FnD):Nat:=(2:Nat)-FnD.i g.2.2.2
def vF(g:List (Y11))(i:Heap×Nat×LwS×FnD):Nat:=g.length-i.2.1
def Ik(r:Heap)(u:Heap×Nat×LwS×FnD)(g:Y14)(i:Nat)(j:Nat)(l:Nat)(m:Y14):Heap:=r.set (fS u) (IObj.cells (List.take 3 g++ [IV.vslice (some i) j l 1 m]++List.drop 4 g))
def a5N(r:Heap)(g:Heap×Nat×LwS×FnD)(u:Y14)(i:Nat)(j:Nat)(l:Nat)(m:Y14)(R:Int)(T:Int)(O:Int->Heap->Prop):Prop:= ∃(A:PSt)(D:IV)(y:Y12),((0:Nat)=y.length/\[]=List.map (IV.int .i64) y)/\PutPre (Ik r g u i j l m) (fS g) A D R T y/\∀(G:Int)(z:Heap)(K:IV)(L:Y15),PutPost (Ik r g u i j
 l m) (fS g) A z K L->fO z (fS g) 4=fO (Ik r g u i j l m) (fS g) 4/\O G z
def a5J(r:Y14)(u:Y14)(g:Heap×Nat×LwS×FnD)(l:Int)(m:Heap×Nat×LwS×FnD->Prop):Prop:= ∃(j:Heap×Nat×LwS×FnD),some a5S=some a5S/\a5L r u (↑(FnD.i (Ty g)):Int) j (IV.ptr (fS g) 0) l [IV.vslice Zr 4 2 2 r,FnD.F (Ty g)] (FnD.nm (Ty g)) [IV.str (FnD.nm (Ty g)),IV.vslice none 1 ((oK g).length) 1 (List.map IV.str (oK g)),
 IV.vslice none 1 ((pX g).length) 1 (List.map IV.str (pX g)),IV.vslice none 0 ((E2 g).length) 17 (bI (E2 g)),iI (FnD.ek (Ty g)),iI (FnD.en (Ty g)),IV.str (FnD.enm (Ty g)),iI (FnD.eop (Ty g)),IV.vslice none 0 ((E3 g).length) 5 (bP (E3
 g))] (m j)
def a5M(i:Heap×Nat×LwS×FnD)(z:Y14)(A:Y14)(y:Heap×Nat×LwS×FnD->Prop)(l:Heap)(m:Y14)(r:Heap)(u:Nat):=aT (l.push (IObj.cells m)) (fS i) λg=>aF (Nat.ble 5 g.length) (a5J z A i (wW ((i.2.1:Int)+1)) (λj=>(l.push (IObj.cells m)).set (fS i) (IObj.cells (List.take 4 g++ [IV.hslice (r.next) 0 u 1]++List.drop 5 g))
 =j.1/\y j))
def a5K(ac:Y14)(fc:Y14)(g:Heap×Nat×LwS×FnD)(X:List (Y11))(Y:Int)(Z:Int)(a0:Heap×Nat×LwS×FnD->Prop):=aT g.1 (fS g) λa1=>a3K a1 3 λK=>aF (decide (0<=(g.2.1:Int)) &&decide ((g.2.1:Int)< (X.length:Int))) (dU (List.map IV.str X) ((g.2.1:Int).toNat*1) λL=>dX g.1 1 16 K 1 [IV.str L] λm r u y i
 =>aT i (fS g) λj=>aF (Nat.ble 4 j.length) (aT (Ik i g j m r u y) (fS g) λO=>jR 1 O 4 (a5N i g j m r u y Y Z (λR A=>a5M g ac fc a0 A [iI R] A 1)) λD T l=>
 a5N i g j m r u y Y Z (λV z=>aT z D λG=>aF (Nat.beq T 0 && (Nat.ble (l*1) G.length&&Nat.ble ((l+1)*8) 140737488355328)) (a5M g ac fc a0 (z.set D IObj.dead) (List.take (l*1) G++ [iI
 V]) z (l+1)))))
theorem f7K(r u:Y14)(h:Heap)(Q:KT):dF (aU d7S) env 33 cC (zE 7 (lwO r u h) (zE 1000013 (lwP r u h) (mJ 1000018 (lwQ r u h)))) (mJ 27 (lwF r u h)) [.agg [.vslice none 0 2 2 r,.vslice none 0 2 9 u]] h Q=(
 aF (aQ [IV.agg (d3A r u)]) (vR r u/\((∃(x:Heap×Nat×IV×Y14),Tl (tI 0=tI ((yU x):Int)/\Ij r u [IV.vslice Zr 4 2 2 r,IV.nilslice] (d3B r x) (Heap.mk (PT.node PT.nil (some (IObj.tip 4)) PT.nil) ((0:Nat)+1)=x.1/\LwO x.1 (yU x) x.2.2.1 x.2.2.2/\True)))/\∀(x:Heap×Nat×IV×Y14)(b:FF),LwO x.1 (yU x) x.2.2.1 ((x.2.2).2)->aK (decide (((yU x):Int)<2)) (aF (decide (0<=((yU x):Int)) &&decide (((yU x):Int)<2)) (dU u (((yU x):Int).toNat*9) λs0=>bM 1 u (((yU x):Int).toNat*9+1) λi1 e2 l3 c4=>bM 1 u (((yU x):Int).toNat*9+1+1) λi5 e6 l7 c8=>bM 17 u (((yU x):Int).toNat*9+1+1+1) λi9 a1 a7 X=>aN .i64 u (((yU x):Int).toNat*9+1+1+1+1) λb2=>aN .i64 u (((yU x):Int).toNat*9+1+1+1+1+1) λb3=>dU u (((yU x):Int).toNat*9+1+1+1+1+1+1) λb9=>aN .i64 u (((yU x):Int).toNat*9+1+1+1+1+1+1+1) λb4=>bM 5 u (((yU x):Int).toNat*9+1+1+1+1+1+1+1+1) λa5 a2 a8 Y=> ∃(p:PSt)(lv:IV)(l:Y12),((0:Nat)=l.length/\[]=List.map (IV.int .i64) l)/\PutPre (x.1.push (e5Z r u)) (x.1.next) p lv 26 0 l/\∀(v:Int)(h2:Heap)(lv:IV)(ns:Y15),PutPost (x.1.push (e5Z r u)) (x.1.next) p h2 lv ns->aT h2 ((x.1).next) λG=>aF (Nat.ble 6 G.length) (∃(M:Nat),(∃(m:Heap×Nat×LwS×FnD),some a5S=some a5S/\a5L r u ((yU x):Int) m (IV.ptr (x.1.next) 0) 0 (d3B r x) s0 [IV.str s0,IV.vslice i1 e2 l3 1 c4,IV.vslice i5 e6 l7 1 c8,IV.vslice i9 a1 a7 17 X,iI b2,iI b3,IV.str b9,iI b4,IV.vslice a5 a2 a8 5 Y] (h2.set (x.1.next) (IObj.cells (List.take 5 G++ [iI v]++List.drop 6 G))=m.1/\LwP r u m.1 m.2.1 m.2.2.2 m.2.2.1/\(vE m)*100-50+(vF (oK m) m)<=M))/\∀(m:Heap×Nat×LwS×FnD)(b:FF),LwP r u m.1 (m.2.1) m.2.2.2 m.2.2.1->(vE m)*100-50+(vF (oK m) m)<=M->aK (decide ((m.2.1:Int)< (↑((oK m).length):Int))) (a5K r u m (oK m) 2 ((m.2.1):Int) (λy=>LwP r u y.1 y.2.1 y.2.2.2 y.2.2.1/\(vE y)*100-50+(vF (oK y) y)< (vE m)*100-50+(vF (oK m) m))) (∃(M:Nat),(a5J r u m 0 (λy=>m.1=y.1/\LwQ r u y.1 y.2.1 y.2.2.2 y.2.2.1/\(vE y)*100-90+(vF (pX y) y)<=M))/\∀(j:Heap×Nat×LwS×FnD)(b:FF),LwQ r u j.1 j.2.1 (Z2 j) j.2.2.1->(vE j)*100-90+(vF (pX j) j)<=M->aK (decide ((j.2.1:Int)< (↑((pX j).length):Int))) (a5K r u j (pX j) 1 0 (λy=>LwQ r u y.1 y.2.1 y.2.2.2 y.2.2.1/\(vE y)*100-90+(vF (pX y) y)< (vE j)*100-90+(vF (pX j) j))) (∃(d:Nat)(V:List M10.S)(s:BSt),((E2 j).length=V.length/\bI (E2 j)=bI V)/\(StPre j.1 (fS j) s V/\(3:Nat)*Ss.cnt V+2<d)/\∀(s2:BSt)(h2:Heap),BW j.1 (fS j) s h2 s2 (Ss.cost V)-> ∃(d:Nat)(ks:List E)(s:BSt),((E3 j).length=ks.length/\bP (E3 j)=bP ks)/\ExPre h2 (fS j) s d (FnD.ek (Z2 j)) (FnD.en (Z2 j)) (FnD.enm (Z2 j)) (FnD.eop (Z2 j)) ks/\∀(v:Int)(z:Heap)(s2:BSt),BI h2 (fS j) s z s2 (E.cost (E.mk (FnD.ek (Z2 j)) (FnD.en (Z2 j)) (FnD.enm (Z2 j)) (FnD.eop (Z2 j)) ks))->aT z (fS j) λb6=>bM 3 b6 2 λc6 c1 a9 c0=>aK (decide ((a9:Int)>2000)) (bM 2 c6K 0 λc7 c2 R K=>bM 5 c6K 1 λc9 c3 T O=>aF (aQ [IV.agg [.vslice none 0 R 2 K,IV.vslice none 0 T 5 O],iI 6]) (Q (.tuple [.agg [.vslice none 0 R 2 K,IV.vslice none 0 T 5 O],iI 6]) h)) (aT z (fS j) λb7=>bM 3 b7 2 λd0 c5 b0 Z=>aT z (fS j) λb8=>aN .i64 b8 5 λb5=>dX z 5 64 (FnD.F (Z2 j)) 1 [IV.str (FnD.nm (Z2 j)),iI (↑((oK j).length):Int),IV.vslice none 0 b0 3 Z,iI v,iI b5] λa6 a3 b1 a0 a4=> ∃(A:Heap×Nat×IV×Y14),Tl (tI (wW ((↑(FnD.i (Z2 j)):Int)+1))=tI (↑((A.2).1):Int)/\Ij r u [IV.vslice Zr 4 2 2 r,IV.vslice (some a6) a3 b1 5 a0] [IV.vslice Zr 4 2 2 r,A.2.2.1] (a4=A.1/\LwO A.1 A.2.1 (((A.2).2).1) A.2.2.2/\((2:Nat)-A.2.1)*100< ((2:Nat)-x.2.1)*100)))))))) (∃(D:Heap×Nat×Y14),Tl (Ij r u (d3B r x) [IV.vslice Zr 4 2 2 r,IV.vslice (some (D.2.1)) 10 2 5 D.2.2] (x.1=D.1/\(∃(L:List Gr),L.length=2/\(∀(g:Gr),g∈L->GrOk g)/\D.2.2=List.flatMap gC L)/\True))))/\∀(xb:Heap×Nat×Y14)(b:FF),a1W ((xb.2).2)->aF (aQ (e6A r xb)) (Q (.tuple (e6A r xb)) h))):=by kernel_rfl
theorem f5R: ∀xs h Q,d9P xs h Q->aM env 33 xs h Q:=by
 intro xs h Q hk;unfold d9P at hk;split at hk
 .rename_i na V nf X;obtain⟨hx,⟨rfl,rfl⟩,hk⟩:=hk;refine aL (d5E) (f7K V X h Q) ?_;delta d3A a5S c6L c6M Tl yU c6K Ij Zr d3B e5Z Zq fS oK pX E2 E3 a5L vE vF Ik a5N Ty a5J a5M a5K Z2 e6A tI wW iI; (try dsimp -iota -proj only);have hq:=hx.q.pure;refine aA (by simp only [aQ,aY,hq.1,hq.2,AN]) ⟨hx,⟨⟨(_,0,.nilslice,[]),KD,KD,KD,KD,KD,KD,KD,KD,⟨AR _,⟨[],rfl,(λg hg=>by cases hg),rfl⟩,.inl ⟨rfl,rfl,rfl⟩⟩,KD⟩,?_⟩,λ⟨g,j,c⟩ _ hc=>aA (by simp only [aQ,aY,hq.1,Qy.pure hc,AN]) (hk _ hc)⟩;rintro⟨g,i,F,c⟩ _ D;dsimp only at D⊢;refine cV (λR=>?_) (λR=>?_)
  .have K:i<2:=JZ;obtain⟨⟨i',F',c',h',a9,nm,pc,lc,b,ek,en,a2,a3,a1⟩,⟨rfl,rfl,rfl,rfl,rfl⟩,⟨L,a0⟩,m⟩:=e8B hx K F c (g.push (.cells (lw0.cells V X))) g.next;dsimp only at L a0 m D R K⊢;have n4:=uQ i';have a6:pc.length+lc.length=(cK i').length:=by rw [<-List.length_append,L]
   refine aP JZ ?_;rw [AK];refine qR (m 0 KA) (jK (m 1 KA) (jK (m 2 KA) (jK (m 3 KA) (cW (m 4 KA) (cW (m 5 KA) (qR (m 6 KA) (cW (m 7 KA) (jK (m 8 KA) ⟨lw0.p V X,.nilslice,[],⟨rfl,rfl⟩,c8T,λv h2 lv T p=>aC p.g (aA rfl ⟨(2-i')*100-50+pc.length,⟨(h2.set g.next (.cells (LwS.cells ⟨T,lv,.nilslice,.nilslice,v,[]⟩ V X)),0,⟨T,lv,.nilslice,.nilslice,v,[]⟩,⟨i',F',c',g.push (.cells (lw0.cells V X)),g.next,nm,pc,lc,b,ek,en,a2,a3,a1⟩),KD,KD,KD,KD,KD,KD,KD,KD,KD,KD,KD,KD,⟨⟨L,a0,K,D.gs,D.gr⟩,AR _,LW.init p⟩,AF _⟩,?_⟩)⟩))))))));rintro⟨g,k,y,x⟩ _ ⟨fn,A,w⟩ hM;dsimp only at fn A w hM⊢;have n4:=uQ x.i;have O:x.pc.length+x.lc.length=(cK x.i).length:=by rw [<-List.length_append,fn.p]
   refine cV (λR=>?_) (λR=>?_)
   .have u:k<x.pc.length:=JZ;refine aC w.e (c8M rfl (aP JZ (qR (b:=x.pc[k]) (by rw [AK,AM,BJ,AB u];rfl) (w.name (e8P fn.p u) JZ λj g2 C eC G z=>?_))));subst eC;refine aC G (aA rfl (aC aH ?_));rcases z.vr with⟨hm,hd⟩| ⟨iv,hd,hv⟩
    .exact Wg (congrArg some hd) (z.put JZ (hm:=by unfold bE;omega) λv Y T lv l=>⟨l.cell.trans z.cell.symm,aC ((aO l.lt2).trans l.e) (aA rfl ⟨(_,k+1,_,x),KD,KD,KD,KD,KD,KD,(by(try dsimp only);rw [AA _ JZ];rfl),KD,KD,KD,KD,rfl,⟨fn,u,l.vr0 (v:=v) hm⟩,(by(try dsimp only);omega)⟩)⟩)
    .refine kT (congrArg some hd) (z.put JZ (hm:=by unfold bE;omega) λv Y T lv l=>⟨l.cell.trans z.cell.symm,?_⟩);obtain⟨v2,v3,v4⟩:=l.vrow hd;have h0:=l.lt;exact aC v2 (aA (by simp only [AE,bT,BB,true_and,AX,l.vl];omega) (aC ((aO (show x.id< (Y.set iv .dead).next from l.lt2)).trans ((aG JZ).trans l.e)) (aA rfl ⟨(_,k+1,_,x),KD,KD,KD,KD,KD,KD,(by(try dsimp only);rw [AA _ JZ];rfl),KD,KD,KD,KD,rfl,⟨fn,u,l.vr1 (v:=v) ⟨v2,v3,v4⟩⟩,(by(try dsimp only);omega)⟩)))
   .obtain rfl:k=x.pc.length:=JZ;have fi:=fn.i;refine⟨(2-x.i)*100-90+x.lc.length,⟨(g,0,y,x),KD,KD,KD,KD,KD,KD,KD,KD,KD,KD,KD,KD,⟨fn,AR _,w⟩,(by(try dsimp only);omega)⟩,?_⟩;generalize hMq:(2-x.i)*100-90+x.lc.length=MQ;have a7:i'<=x.i:=JZ;have a8:x.lc.length<=4:=JZ;clear w fn O n4 A;rintro⟨g,k,y,x⟩ _ ⟨fn,A,w⟩ a4;dsimp only at fn A w a4⊢;have n4:=uQ x.i;have O:x.pc.length+x.lc.length=(cK x.i).length:=by rw [<-List.length_append,fn.p]
    refine cV (λR=>?_) (λR=>?_)
    .have u:k<x.lc.length:=JZ;refine aC w.e (c8M rfl (aP JZ (qR (b:=x.lc[k]) (by rw [AK,AM,BJ,AB u];rfl) (w.name (e8O fn.p u) JZ λj g2 C eC G z=>?_))));subst eC;refine aC G (aA rfl (aC aH ?_));rcases z.vr with⟨hm,hd⟩| ⟨iv,hd,hv⟩
     .exact Wg (congrArg some hd) (z.put JZ λv Y T lv l=>⟨l.cell.trans z.cell.symm,aC ((aO l.lt2).trans l.e) (aA rfl ⟨(_,k+1,_,x),KD,KD,KD,KD,KD,KD,(by(try dsimp only);rw [AA _ JZ];rfl),KD,KD,KD,KD,rfl,⟨fn,u,l.vr0 (v:=v) hm⟩,(by(try dsimp only);omega)⟩)⟩)
     .refine kT (congrArg some hd) (z.put JZ λv Y T lv l=>⟨l.cell.trans z.cell.symm,?_⟩);obtain⟨v2,v3,v4⟩:=l.vrow hd;have h0:=l.lt;exact aC v2 (aA (by simp only [AE,bT,BB,true_and,AX,l.vl];omega) (aC ((aO (show x.id< (Y.set iv .dead).next from l.lt2)).trans ((aG JZ).trans l.e)) (aA rfl ⟨(_,k+1,_,x),KD,KD,KD,KD,KD,KD,(by(try dsimp only);rw [AA _ JZ];rfl),KD,KD,KD,KD,rfl,⟨fn,u,l.vr1 (v:=v) ⟨v2,v3,v4⟩⟩,(by(try dsimp only);omega)⟩)))
    .obtain rfl:k=x.lc.length:=JZ;obtain⟨s,sf,sn,sb⟩:=w.fin O hx;have gc:=fn.gb.cost;have gn:=fn.gb.cnt;have wl:=w.n1;have fi:=fn.i;refine⟨3*Ss.cnt x.b+3,x.b,s,⟨rfl,rfl⟩,⟨⟨sb,by rw [sf];exact fn.gb.wf,JZ,by rw [sn];omega⟩,JZ⟩,λs2 h2 xb=>?_⟩;have bl:=xb.len;rw [sn]at bl;refine⟨Es.dp x.eks+1,x.eks,s2,⟨rfl,rfl⟩,⟨xb.bh,by rw [xb.f,sf];exact fn.gb.vw,AQ _,JZ⟩,λv h3 s3 xe=>?_⟩;have nA:=xe.1.len;have b:=xe.1.bh;have n1:=b.n1;rcases b.lv with⟨Z,_⟩| ⟨io,l1,_⟩
     .rw [Z]at n1;exact absurd n1 KA
     have a5:GrOk ⟨x.nm,x.pc.length,s3.ns,v,s3.st⟩:=⟨b.gl,n1,KE⟩;refine aC b.g (jK (congrArg some l1) (cV (λc9=>absurd c9 JZ) (λ_=>aC b.g (jK (congrArg some l1) (aC b.g (cW rfl ((((fn.gr.fv w.fv).fv xb.fv).fv xe.1.fv).app JZ (AR _) b.g (λ_=>b.nl) λj h4 t r=>?_)))))));obtain⟨t1,t2,_⟩:=r.row;exact⟨(h4,x.i+1,_,_),KD,KD,KD,(by(try dsimp only);rw [AA _ JZ];rfl),KD,KD,KD,KD,⟨(by(try dsimp only);omega),fn.gs.snoc a5,.inr ⟨j,rfl,t1,t2⟩⟩,(by(try dsimp only);omega)⟩
  .obtain rfl:i=2:=by have:=D.le;omega
   rcases D.f with⟨_,q,_⟩| ⟨j,q,_⟩
   .omega
   .exact⟨(g,j,c),KD,KD,KD,KD,KD,by rw [q],KD,D.gs,KD⟩
 .exact hk.elim
def e7Q:=aV 33 d9P d7S
theorem e8R:aS env e7Q:=aE f5R (d5E)
def e0B(xs:Y14)(h:Heap)(K:IV->Heap->Prop):Prop:=match xs with
 | [.vslice none e0 n0 1 c0]=> ∃l:Y12,(n0=l.length/\c0=l.map (IV.int .i64))/\(∀x∈l,bE x)/\∀(g i:Y14),vR g i->K (.agg [.vslice none 0 2 2 g,.vslice none 0 2 9 i]) h
 |_=>False
theorem f6D: ∀xs h Q,e0B xs h Q->aM env 34 xs h Q:=by
 intro xs h Q hk;refine e9W xs h Q ?_;unfold e0B at hk;split at hk
 .rename_i e0 G D;obtain⟨l,m,j,hk⟩:=hk;exact⟨l,m,j,λu y g z i A r=>hk _ _ ⟨u,y,g,z,i,A,r,rfl,rfl⟩⟩
 .exact hk.elim
def e7W:=aV 34 e0B e7Q
theorem e8X:aS env e7W:=aE f6D e8R
def d9X(xs:Y14)(h:Heap)(K:KT):Prop:=match xs with
 | [.vslice none e0 n0 1 c0]=> ∃l:Y12,(n0=l.length/\c0=l.map (IV.int .i64))/\(∀x∈l,bE x)/\∀(g j i:Y14),vR g j->a1W i->K (.agg [.vslice none 0 2 2 g,.vslice none 0 2 5 i]) h
 |_=>False
theorem f7S(l:Y12)(e0:Nat)(h:Heap)(Q:KT):dF (aU e7W) env 9 cC bD bD [.vslice none e0 l.length 1 (l.map (IV.int .i64))] h Q=(
 aF (aQ [IV.vslice none 0 l.length 1 (List.map (IV.int .i64) l)]) (∃(g:Y12),(l.length=g.length/\List.map (IV.int .i64) l=List.map (IV.int .i64) g)/\(∀(x:Int),x∈g->bE x)/\∀(i m:Y14),vR i m->vR i m/\((2:Nat)=2/\(2:Nat)=2)/\∀(j:Y14),a1W j->aF (aQ [IV.agg [.vslice none 0 2 2 i,IV.vslice none 0 2 5 j]]) (Q (.agg [.vslice none 0 2 2 i,IV.vslice none 0 2 5 j]) h))):=by kernel_rfl
theorem f5Z: ∀xs h Q,d9X xs h Q->aM env 9 xs h Q:=by
 intro xs h Q hk;unfold d9X at hk;split at hk
 .rename_i e0 z y;obtain⟨l,⟨rfl,rfl⟩,u,hk⟩:=hk;refine aL (e8X) (f7S l e0 h Q) ?_;refine aA (by simp only [aQ,aY,bL,AN]) ⟨l,⟨rfl,rfl⟩,u,λj m g=>⟨g,⟨rfl,rfl⟩,λr i=>aA ?_ (hk j m r g i)⟩⟩;simp only [aQ,aY,g.q.pure.1,i.pure,AN]
 .exact hk.elim
theorem C8{l:Y15}{i o:Nat}{K:Y10->Nat->Nat->Y14->Prop}(h:i<l.length)(ho:o=i*3+2)(hk:K none 0 l[i].ks.length (l[i].ks.map (IV.int .i64))):bM 1 (l.flatMap cN) o K:=by
 subst ho;have g:=pD (j:=2) h JZ;unfold bM
 simp only [g];exact hk
theorem a6F: ∀{l:Y15}{n:Nat},(l.flatMap cN).take (n*3)=(l.take n).flatMap cN
 | [],n=>KB
 |x::l,0=>KB
 |x::l,n+1=>by
  rw [BF,HL,BF,FO,show(n+1)*3- (cN x).length=n*3 by show(n+1)*3-3=_;omega,a6F,AJ (by show 3<=_;omega)]
theorem fD{k:IntKind}{l:Y12}{i o:Nat}{K:Int->Prop}(h:i<l.length)(ho:o=i)(hk:K l[i]):aN k (l.map (IV.int k)) o K:=by
 subst ho;exact cO h hk
def a2M(xs:Y14)(h:Heap)(K:KT):Prop:=match xs with
 | [.int .i64 n,.int .i64 m]=>(0<m/\m<4611686018427387904)/\K (.int .i64 (n%m)) h
 |_=>False
theorem e4M(n m:Int)(h:Heap)(Q:KT):dF (aU noC) env 12 cC bD bD [.int .i64 n,.int .i64 m] h Q=(
 aF (!m==0) (aK (decide (Int.tmod n m<0)) (Q (.int .i64 (wW (Int.tmod n m+m))) h) (Q (.int .i64 (Int.tmod n m)) h))):=by kernel_rfl
theorem e2V: ∀xs h Q,a2M xs h Q->aM env 12 xs h Q:=by
 intro xs h Q hk;unfold a2M at hk;split at hk
 .rename_i n m;refine aL (jW env) (e4M n m h Q) ?_;delta wW;obtain⟨hm,hk⟩:=hk;have h1:=FQ n (IR m);have i:=Go.M13.uZ n m hm.1;refine aA (by simp;omega) (aB (λg=>bN hk ?_) (λg=>bN hk ?_))
  .simp only [decide_eq_true_eq]at g;rw [AA _ JZ];congr 1;omega
  .simp only [decide_eq_false_iff_not]at g;congr 1;omega
 .exact hk.elim
def a0V:=aV 12 a2M noC
theorem a8C:aS env a0V:=aE e2V (jW env)
def Rd(xs:Y14)(h:Heap)(K:KT):Prop:=match xs with
 | [.int .i64 op]=>K (.tuple [.int .i64 (ar op),.bool (vP op)]) h
 |_=>False
def e6D:=IV.tuple [.int .i64 (-1:Int),IV.bool true]
def e6E:=IV.tuple [.int .i64 3,IV.bool true]
def N7(op:Int)(Q:KT)(h:Heap)(g:Int)(i:Int)(j:Int)(l:Int)(m:Int)(r:Int)(u:Bool)(y:Prop)(z:Prop):Prop:=aK (op==g) (Q (.tuple [.int .i64 i,IV.bool true]) h) (aK (op==j) (Q (.tuple [.int .i64 l,IV.bool true]) h) (aK (op==m) (Q (.tuple [.int .i64 r,IV.bool true]) h) (aK u y z)))
def Je(op:Int)(Q:KT)(h:Heap):Prop:=N7 op Q h 23 2 27 2 29 2 (op==22) (Q e6E h) (aK (op==28) (Q e6E h) (aK (op==30) (Q e6D h) (aK (op==31) (Q e6D h) (Q (.tuple [.int .i64 0,IV.bool false]) h))))
theorem e4B(op:Int)(h:Heap)(Q:KT):dF (aU a0V) env 36 cC bD bD [.int .i64 op] h Q=(
 N7 op Q h 1 0 2 0 3 0 (op==26) (Q (.tuple [.int .i64 0,IV.bool true]) h) (N7 op Q h 20 1 21 1 24 1 (op==25) (Q (.tuple [.int .i64 1,IV.bool true]) h) (aK (decide (op>=4)) (aK (decide (op<=19)) (Q (.tuple [.int .i64 2,IV.bool true]) h) (Je op Q h)) (Je op Q h)))):=by kernel_rfl
theorem c3K: ∀xs h Q,Rd xs h Q->aM env 36 xs h Q:=by
 intro xs h Q hk;unfold Rd at hk;split at hk
 .rename_i op;refine aL (a8C) (e4B op h Q) ?_;delta N7 e6E e6D Je; (try dsimp -iota -proj only)
  repeat' (first|refine aA ?_ ?_|refine aB (λ_=>?_) (λ_=>?_)|refine And.intro ?_ ?_)
  all_goals first|assumption|omega| (refine bN hk ?_;simp only [IV.agg.injEq,IV.tuple.injEq,IV.int.injEq,IV.bool.injEq,BE,true_and,and_true];grind [ar,vP])
 .exact hk.elim
def a0N:=aV 36 Rd a0V
theorem a7U:aS env a0N:=aE c3K (a8C)
def Ri(xs:Y14)(h:Heap)(K:KT):Prop:=match xs with
 | [.int .i64 op]=>K (.int .i64 (Ab op)) h
 |_=>False
theorem d1P(op:Int)(h:Heap)(Q:KT):dF (aU a0N) env 207 cC bD bD [.int .i64 op] h Q=(
 aK (op==2) (Q (.int .i64 5) h) (aK (op==3) (Q (.int .i64 255) h) (aK (op==23) (Q (.int .i64 3) h) (aK (op==28) (Q (.int .i64 3) h) (aK (op==27) (Q (.int .i64 1000016) h) (aK (op==30) (Q (.int .i64 7) h) (aK (op==31) (Q (.int .i64 15) h) (aK (op==25) (Q (.int .i64 15) h) (Q (.int .i64 (-1)) h))))))))):=by kernel_rfl
theorem d0J: ∀xs h Q,Ri xs h Q->aM env 207 xs h Q:=by
 intro xs h Q hk;unfold Ri at hk;split at hk
 .rename_i op;refine aL (a7U) (d1P op h Q) ?_
  repeat' (first|refine aA ?_ ?_|refine aB (λ_=>?_) (λ_=>?_)|refine And.intro ?_ ?_)
  all_goals first|assumption|omega| (refine bN hk ?_;simp only [IV.agg.injEq,IV.tuple.injEq,IV.int.injEq,IV.bool.injEq,BE,true_and,and_true];grind [Ab])
 .exact hk.elim
def Pq:=aV 207 Ri a0N
theorem Xb:aS env Pq:=aE d0J (a7U)
def a2Y(xs:Y14)(h:Heap)(K:KT):Prop:=match xs with
 | [.int .i64 op,.int .i64 n]=>K (.bool (jQ op n)) h
 |_=>False
theorem e4V(op n:Int)(h:Heap)(Q:KT):dF (aU Pq) env 165 cC bD bD [.int .i64 op,.int .i64 n] h Q=(
 aK (op==1) (Q (.bool true) h) (aK (decide (Ab op<0)) (Q (.bool (n==0)) h) (aK (decide (n>=0)) (aK (decide (n<=Ab op)) (aK (op !=27) (Q (.bool true) h) (Q (.bool (decide (n>0))) h)) (Q (.bool false) h)) (Q (.bool false) h)))):=by kernel_rfl
theorem e3G: ∀xs h Q,a2Y xs h Q->aM env 165 xs h Q:=by
 intro xs h Q hk;unfold a2Y at hk;split at hk
 .rename_i op n;refine aL (Xb) (e4V op n h Q) ?_
  repeat' (first|refine aA ?_ ?_|refine aB (λ_=>?_) (λ_=>?_)|refine And.intro ?_ ?_)
  all_goals first|assumption|omega| (refine bN hk ?_;simp only [IV.agg.injEq,IV.tuple.injEq,IV.int.injEq,IV.bool.injEq,BE,true_and,and_true];grind [jQ])
 .exact hk.elim
def a1B:=aV 165 a2Y Pq
theorem a8I:aS env a1B:=aE e3G (Xb)
def Rv(xs:Y14)(h:Heap)(K:KT):Prop:=match xs with
 | [.bool b,.int .i64 n]=>K (.int .i64 (if b=true then n else 0)) h
 |_=>False
theorem d2A(b:Bool)(n:Int)(h:Heap)(Q:KT):dF (aU a1B) env 188 cC bD bD [.bool b,.int .i64 n] h Q=(
 aK b (Q (.int .i64 n) h) (Q (.int .i64 0) h)):=by kernel_rfl
theorem d0V: ∀xs h Q,Rv xs h Q->aM env 188 xs h Q:=by
 intro xs h Q hk;unfold Rv at hk;split at hk
 .rename_i b n;refine aL (a8I) (d2A b n h Q) ?_;refine aB (λc=>?_) (λc=>?_)
  .rw [if_pos c]at hk;exact hk
  .rw [if_neg (by rw [c];exact FC)]at hk;exact hk
 .exact hk.elim
def Qe:=aV 188 Rv a1B
theorem Xn:aS env Qe:=aE d0V (a8I)
def e7M(k:Y12):Inv':=dL Nat (λi=>[(0,.v (.vslice none 0 (k).length 1 ((k).map (IV.int .i64)))),(3,.v (.int .i64 i))]) (λ_=>[]) (λ_=>Heap.empty)
 (λi=>i<=k.length/\(k.drop i).all (λx=>decide (x=1))=k.all (λx=>decide (x=1))) (λi=>k.length-i)
def b7Z(xs:Y14)(h:Heap)(K:KT):Prop:=match xs with
 | [.vslice none e1 n1 1 c1]=> ∃k:Y12,(n1=k.length/\c1=k.map (IV.int .i64))/\k.length<=1000000000/\K (.bool (k.all λx=>decide (x=1))) h
 |_=>False
theorem f1V(k:Y12)(i:Nat)(h:Heap)(Q:KT):dF (aU Qe) env 189 cC (mJ 3 (e7M k)) bD [.vslice none i (k).length 1 ((k).map (IV.int .i64))] h Q=(
 aF (aQ [IV.vslice none 0 k.length 1 (List.map (IV.int .i64) k)]) ((∃(x:Nat),some (TV.v (.vslice none 0 k.length 1 (List.map (IV.int .i64) k)))=some (TV.v (.vslice none 0 k.length 1 (List.map (IV.int .i64) k)))/\tI 0=tI (x:Int)/\Heap.mk PT.nil 0=Heap.mk PT.nil 0/\(x<=k.length/\(List.all (List.drop x k) λx=>decide (x=1))=List.all k λx=>decide (x=1))/\True)/\∀(x:Nat)(b:FF),(x<=k.length/\(List.all (List.drop x k) λx=>decide (x=1))=List.all k λx=>decide (x=1))->aK (decide ((x:Int)< (k.length:Int))) (aF (decide (0<=(x:Int)) &&decide ((x:Int)< (k.length:Int))) (aN .i64 (List.map (IV.int .i64) k) ((x:Int).toNat*1) λj=>aK (j !=1) (Q (.bool false) h) (∃(g:Nat),some (TV.v (.vslice none 0 k.length 1 (List.map (IV.int .i64) k)))=some (TV.v (.vslice none 0 k.length 1 (List.map (IV.int .i64) k)))/\tI (wW ((x:Int)+1))=tI (g:Int)/\Heap.mk PT.nil 0=Heap.mk PT.nil 0/\(g<=k.length/\(List.all (List.drop g k) λx=>decide (x=1))=List.all k λx=>decide (x=1))/\k.length-g<k.length-x))) (Q (.bool true) h))):=by kernel_rfl
theorem e9H: ∀xs h Q,b7Z xs h Q->aM env 189 xs h Q:=by
 intro xs h Q hk;unfold b7Z at hk;split at hk
 .rename_i m z l;obtain⟨k,⟨rfl,rfl⟩,y,hk⟩:=hk;refine aL (Xn) (f1V k m h Q) ?_;delta tI wW;have u: ∀x:Nat,(x:Int).toNat=x:=AK
  refine aA (by simp only [aQ,aY,bL,AN]) ⟨⟨0,KD,KD,KD,⟨AR _,rfl⟩,trivial⟩,?_⟩;rintro i _ ⟨r,g⟩
  try dsimp only at r g⊢
  refine aB (λc=>?_) (λc=>?_)
  .rw [decide_eq_true_eq]at c;have j:i<k.length:=JZ;simp only [u];rw [AM];rw [List.drop_eq_getElem_cons j,EZ]at g;refine aA (by simp;omega) (cO j (aB (λl=>?_) (λl=>⟨i+1,KD,?_,KD,⟨j,?_⟩,by(try dsimp only);omega⟩)))
   .rw [decide_eq_false (bne_iff_ne.1 l),CN]at g;rw [<-g]at hk;exact hk
   .rw [AA _ JZ];rfl
   .rw [bne_eq_false_iff_eq]at l;rw [decide_eq_true l,BD]at g;exact g
  .rw [decide_eq_false_iff_not]at c;rw [List.drop_eq_nil_of_le JZ]at g;rw [<-g]at hk;exact hk
 .exact hk.elim
def b4U:=aV 189 b7Z Qe
theorem c0Y:aS env b4U:=aE e9H (Xn)
def a2I(xs:Y14)(h:Heap)(K:KT):Prop:=match xs with
 | [.vslice none e0 n0 3 c0,.agg [.int .i64 op,.int .i64 im,.vslice none e1 n1 1 c1],.vslice none e2 n2 1 c2]=> ∃(l:Y15)(ks k:Y12),(n0=l.length/\c0=l.flatMap cN)/\(n1=ks.length/\c1=ks.map (IV.int .i64))/\(n2=k.length/\c2=k.map (IV.int .i64))/\((op≠25/\op≠30/\op≠31)/\ks.length=k.length/\k.length<=1000000000)/\K (.int .i64 (gN op im k)) h
 |_=>False
def jI:=iI 0
def qO:=IV.int .i64
def kJ(k:Y12):=k.length
def Zf(k:Y12):=Int.tdiv ((kJ k):Int) 2
def tF(k:Y12)(g:Int):Int:=wW (Zf k)+g
def Ze(k:Y12):=wW (tF k 2)
def An(k:Y12):=tF k 1
def oB(l:Y15)(m:Int)(ks:Y12)(k:Y12)(Q:KT)(h:Heap)(g:Int)(i:Bool)(j:Prop):Prop:=aF (aQ [IV.vslice none 0 l.length 3 (List.flatMap cN l),IV.agg [.int .i64 g,iI m,IV.vslice none 0 ks.length 1 (List.map qO ks)],IV.vslice none 0 (kJ k) 1 (List.map qO k)]) (aK i (Q jI h) j)
def cT(j:Int)(g:Y12)(l:Nat)(m:Int->Prop):Prop:=aF (true&&decide (j< (g.length:Int))) (aN .i64 (List.map qO g) l λi=>m i)
def Jf(op:Int)(k:Y12)(j:Int)(l:Int->Prop)(m:Int)(r:Int->Prop)(u:Int)(y:Prop)(z:Int)(A:Prop)(D:Prop):Prop:=aK (op==j) (cT 0 k 0 (λg=>l g)) (aK (op==m) (cT 0 k 0 (λi=>r i)) (aK (op==u) y (aK (op==z) A D)))
def O1(l:Y15)(u:Int)(Q:KT)(h:Heap)(g:Int):Prop:=aF (decide (0<=g) &&decide (g< (l.length:Int))) (bM 1 (List.flatMap cN l) (g.toNat*3+2) λj m i r=>aK (decide (u>=wW (Int.tdiv (i:Int) 2))) (Q jI h) (Q (.int .i64 (wW ((if(u==0)=true then(1:Int)else(0:Int))+1))) h))
def xT(k:Y12)(Q:KT)(h:Heap)(l:Bool)(m:Bool)(r:Bool)(i:Int)(u:Y12->Prop):Prop:=aK l (aK m (cT 0 k 0 (λj=>aK (j==2) (aF (true&&r) (∃(g:Y12),(i.toNat-1=g.length/\List.take ((i.toNat-1)*1) (List.drop 1 (List.map qO k))=List.map qO g)/\g.length<=1000000000/\u g)) (Q
 jI h))) (Q jI h)) (Q jI h)
def pA(i:Y12)(j:Int):IV:=iI (if(List.all i λg=>decide (g=1))=true then j else(0:Int))
def N9(k:Y12)(Q:KT)(h:Heap):Prop:=xT k Q h (decide (((kJ k):Int)>=1)) (decide (((kJ k):Int)<=7)) (decide (1<=((kJ k):Int)) &&decide (((kJ k):Int)<=((kJ k):Int))) ((kJ k):Int) (λg=>Q (pA g 2) h)
def N6(k:Y12)(Q:KT)(h:Heap):Prop:=aK (Int.tmod ((kJ k):Int) 2==1) (xT k Q h (decide (wW (Zf k)>=1)) (decide (wW (Zf k)<=16)) (decide (1<=wW (An k)) &&decide (wW (An k)<=((kJ k):Int))) (wW (An k)) (λi=>aK (List.all i λj=>decide (j=1)) (aF (decide (0<=wW
 (An k)) &&decide (wW (An k)< ((kJ k):Int))) (aN .i64 (List.map qO k) ((wW (An k)).toNat*1) λl=>aK (l==2) (aF (decide (0<=wW (tF k 2)) && (decide (wW (tF k 2)<=((kJ k):Int)) &&decide (((kJ k):Int)<=(↑(kJ k):
 Int)))) (∃(g:Y12),(((kJ k):Int).toNat- (Ze k).toNat=g.length/\List.take ((((kJ k):Int).toNat- (Ze k).toNat)*1) (List.drop ((Ze k).toNat*1) (List.map qO k))=List.map qO g)/\g.length<=1000000000/\Q (pA g (3
 :Int)) h)) (Q jI h))) (Q jI h))) (Q jI h)
def Jb(op:Int)(X:Int)(Q:KT)(h:Heap)(k:Y12)(ks:Y12)(l:Y15):Prop:=aK (!jQ op X) (Q jI h) (aK (op==3) (aK (Int.tmod X 16==0) (Q (.int .i64 2) h) (Q (.int .i64 1) h)) (aK (op==26) (Q (.int .i64 2) h) (Jf op k 22 (λi=>aK (i !=1) (Q jI h) (cT 1 k 1 (λj=>aF (true&&decide (2< ((kJ
 k):Int))) (aN .i64 (List.map qO k) 2 λm=>aK (j !=m) (Q jI h) (cT 1 k 1 (λr=>aK (r==3) (Q jI h) (cT 1 k 1 (λu=>Q (.int .i64 u) h)))))))) 23 (λy=>aK (y==2) (cT 1
 k 1 (λz=>Q (.int .i64 (if(z==1)=true then(1:Int)else(0:Int))) h)) (Q jI h)) 24 (cT 0 k 0 (λA=>Q (.int .i64 (if(A==2)=true then(1:Int)else(0:Int))) h)) 25 (cT 0 k 0 (λD=>aK
 (D !=3) (Q jI h) (cT 0 ks 0 (λG=>O1 l X Q h G)))) (Jf op k 27 (λK=>aK (K==2) (cT 1 k 1 (λL=>Q (.int .i64 (if(L==1)=true then(2:Int)else(0:Int))) h)) (Q jI h)) 29 (fun
 zb142=>aK (zb142==2) (cT 1 k 1 (λO=>Q (.int .i64 (if(O==1)=true then(2:Int)else(0:Int))) h)) (Q jI h)) 28 (cT 0 k 0 (λR=>aK (R==2) (cT 1 k 1 (λT=>aK (T==1) (cT
 (2:Int) k 2 (λV=>Q (.int .i64 (if(V==1)=true then(2:Int)else(0:Int))) h)) (Q jI h))) (Q jI h))) 30 (N9 k Q h) (aK (op==31) (N6 k Q h) (∃(g:Y12),(k.length=g.length/\List.map qO k=List.map qO g)/\g.length
 <=1000000000/\Q (pA g 1) h))))))
theorem e4J(l:Y15)(op g:Int)(ks k:Y12)(e0 i j:Nat)(h:Heap)(Q:KT):dF (aU b4U) env 122 cC bD bD [.vslice none e0 (l).length 3 ((l).flatMap cN),.agg [.int .i64 op,.int .i64 g,.vslice none i ks.length 1 (ks.map (IV.int .i64))],.vslice none j (k).length 1 ((k).map (IV.int .i64))] h Q=(
 oB l g ks k Q h op (!vP op) (aK (decide (ar op>=0)) (aK ((ks.length:Int) !=ar op) (Q jI h) (Jb op g Q h k ks l)) (Jb op g Q h k ks l))):=by kernel_rfl
theorem c3N: ∀xs h Q,a2I xs h Q->aM env 122 xs h Q:=by
 intro xs h Q hk;unfold a2I at hk;split at hk
 .rename_i e0 n0 r op T Y n1 u Z n2 j;obtain⟨l,ks,k,⟨rfl,rfl⟩,⟨rfl,rfl⟩,⟨rfl,rfl⟩,hb,hk⟩:=hk;refine aL (c0Y) (e4J l op T ks k e0 Y Z h Q) ?_;delta qO kJ jI oB cT Jf O1 xT pA N9 Zf tF An Ze N6 Jb wW iI; (try dsimp -iota -proj only);obtain⟨i,m,R⟩:=hb;refine aA (by simp only [aQ,aY,bL,bX,AN]) (aB (λc=>?_) (λr=>?_))
  .unfold gN at hk;rw [if_pos (.inl (by simpa using c))]at hk;exact hk
  rw [CA]at r;have V:((k.length:Int)≠ar op\/jQ op T=false)->Q (.int .i64 0) h:=λe=>by
   unfold gN at hk;rw [if_pos (.inr e)]at hk;exact hk
  have O:op≠30->op≠31->0<=ar op:=by unfold ar;repeat' split<;>omega
  refine aB (λ_=>?_) (λc=>by rw [decide_eq_false_iff_not]at c;exact absurd (O i.2.1 i.2.2) JZ);refine aB (λc=>V (.inl (by rw [<-m];exact bne_iff_ne.1 c))) (λu=>aB (λc=>V (.inr (by simpa using c))) (λj=>?_));rw [bne_eq_false_iff_eq,m]at u;rw [CA]at j;rw [Ny i r u j]at hk;have g: ∀{o:Int},(op==o)=false-> ¬op=o:=λc=>by simpa using c
  refine aB (λc=>?_) (λX=>?_)
  .have e:=beq_iff_eq.1 c;subst e;rw [if_pos rfl]at hk;have hi:0<=T:=by
    unfold jQ at j;rw [decide_eq_true_eq]at j;have:Ab 3=255:=KA;omega
   rw [CH hi];refine aB (λd=>?_) (λd=>?_)
   .rw [if_pos (beq_iff_eq.1 d)]at hk;exact hk
   .rw [if_neg (by simpa using d)]at hk;exact hk
  rw [if_neg (g X)]at hk;refine aB (λc=>?_) (λD=>?_)
  .have e:=beq_iff_eq.1 c;rw [if_pos e]at hk;exact hk
  rw [if_neg (g D)]at hk;refine aB (λc=>?_) (λy=>?_)
  .have e:=beq_iff_eq.1 c;subst e;rw [if_pos rfl]at hk;have h4:ar 22=3:=KA;have h3:k.length=3:=JZ
   match k,h3 with
   | [a,b,c],_=>
    repeat' (first|refine aA KB ?_|refine cO KB ?_|refine aB (λ_=>?_) (λ_=>?_))
    all_goals
     refine bN hk ?_;simp only [IV.int.injEq,true_and]
     simp_all
  rw [if_neg (g y)]at hk;refine aB (λc=>?_) (λz=>?_)
  .have e:=beq_iff_eq.1 c;subst e;rw [if_pos rfl]at hk;have h4:ar 23=2:=KA;have h3:k.length=2:=JZ
   match k,h3 with
   | [a,b],_=>
    repeat' (first|refine aA KB ?_|refine cO KB ?_|refine aB (λ_=>?_) (λ_=>?_))
    all_goals
     refine bN hk ?_;simp only [IV.int.injEq,true_and]
     simp_all
  rw [if_neg (g z)]at hk;refine aB (λc=>?_) (λA=>?_)
  .have e:=beq_iff_eq.1 c;subst e;rw [if_pos rfl]at hk;have h4:ar 24=1:=KA;have h3:k.length=1:=JZ
   match k,h3 with
   | [a],_=>
    repeat' (first|refine aA KB ?_|refine cO KB ?_|refine aB (λ_=>?_) (λ_=>?_))
    all_goals
     refine bN hk ?_;simp only [IV.int.injEq,true_and]
     simp_all
  rw [if_neg (g A)]at hk;refine aB (λc=>absurd (beq_iff_eq.1 c) i.1) (λ_=>aB (λc=>?_) (λG=>aB (λc=>?_) (λL=>?_)))
  .have e:=beq_iff_eq.1 c;subst e;rw [if_pos (.inl rfl)]at hk;have h4:ar 27=2:=KA;have h3:k.length=2:=JZ
   match k,h3 with
   | [a,b],_=>
    repeat' (first|refine aA KB ?_|refine cO KB ?_|refine aB (λ_=>?_) (λ_=>?_))
    all_goals
     refine bN hk ?_;simp only [IV.int.injEq,true_and]
     simp_all
  .have e:=beq_iff_eq.1 c;subst e;rw [if_pos (.inr rfl)]at hk;have h4:ar 29=2:=KA;have h3:k.length=2:=JZ
   match k,h3 with
   | [a,b],_=>
    repeat' (first|refine aA KB ?_|refine cO KB ?_|refine aB (λ_=>?_) (λ_=>?_))
    all_goals
     refine bN hk ?_;simp only [IV.int.injEq,true_and]
     simp_all
  rw [if_neg (λe=>e.elim (g G) (g L))]at hk;refine aB (λc=>?_) (λK=>?_)
  .have e:=beq_iff_eq.1 c;subst e;rw [if_pos rfl]at hk;have h4:ar 28=3:=KA;have h3:k.length=3:=JZ
   match k,h3 with
   | [a,b,c],_=>
    repeat' (first|refine aA KB ?_|refine cO KB ?_|refine aB (λ_=>?_) (λ_=>?_))
    all_goals
     refine bN hk ?_;simp only [IV.int.injEq,true_and]
     simp_all
  rw [if_neg (g K)]at hk;exact aB (λc=>absurd (beq_iff_eq.1 c) i.2.1) (λ_=>aB (λc=>absurd (beq_iff_eq.1 c) i.2.2) (λ_=>⟨k,⟨rfl,rfl⟩,R,hk⟩))
 .exact hk.elim
def a0T:=aV 122 a2I b4U
theorem a8A:aS env a0T:=aE c3N (c0Y)
def Ee(xs:Y14)(h:Heap)(K:KT):Prop:=match xs with
 | [.vslice none e0 n0 3 c0,.agg [.int .i64 31,.int .i64 im,.vslice none e1 n1 1 c1],.vslice none e2 n2 1 c2]=> ∃(l:Y15)(ks k:Y12),(n0=l.length/\c0=l.flatMap cN)/\(n1=ks.length/\c1=ks.map (IV.int .i64))/\(n2=k.length/\c2=k.map (IV.int .i64))/\(ks.length=k.length/\k.length<=1000000/\l.length<=1000000/\(∀q∈ks,0<=q/\q<l.length)/\(k=[3]->eK l ⟨31,im,ks⟩%2=1)/\∀n∈l,n.ks.length<=1000000)/\K (.int .i64 (bW (eK l ⟨31,im,ks⟩) 31 im k)) h
 |_=>False
theorem c4R(l:Y15)(g:Int)(ks k:Y12)(e0 i j:Nat)(h:Heap)(Q:KT):dF (aU a0T) env 122 cC bD bD [.vslice none e0 (l).length 3 ((l).flatMap cN),.agg [.int .i64 31,.int .i64 g,.vslice none i ks.length 1 (ks.map (IV.int .i64))],.vslice none j (k).length 1 ((k).map (IV.int .i64))] h Q=(
 oB l g ks k Q h 31 (!jQ 31 g) (N6 k Q h)):=by kernel_rfl
theorem Yc: ∀xs h Q,Ee xs h Q->aM env 122 xs h Q:=by
 intro xs h Q hk;unfold Ee at hk;split at hk
 .rename_i e0 n0 c0 O X n1 A Y n2 D;obtain⟨l,ks,k,⟨rfl,rfl⟩,⟨rfl,rfl⟩,⟨rfl,rfl⟩,Z,hk⟩:=hk;refine aL (a8A) (c4R l O ks k e0 X Y h Q) ?_;delta qO kJ jI oB cT xT Zf tF An Ze pA N6 wW iI; (try dsimp -iota -proj only);have tn: ∀x:Nat,(x:Int).toNat=x:=AK
  obtain⟨a0,a1,a2,a3,L,_⟩:=Z;have i: ¬ (vS k=true/\jQ 31 O=true)->Q (.int .i64 0) h:=λe=>by
   unfold bW at hk;rw [if_pos rfl,if_neg e]at hk;exact hk
  have ht:IntKind.i64.wrap (Int.tdiv (k.length:Int) 2)=((k.length/2:Nat):Int):=by
   rw [BQ JZ,AA _ JZ];omega
  have hm:Int.tmod (k.length:Int) 2=((k.length%2:Nat):Int):=by
   rw [CH JZ];omega
  have g:=λq:vS k=true=>e1B q
  have j:=λq:vS k=true=>sG q
  rw [ht,hm];generalize hM:k.length/2=M at*
  have w1:IntKind.i64.wrap ((M:Int)+1)=((M+1:Nat):Int):=by rw [AA _ JZ];rfl
  have w2:IntKind.i64.wrap ((M:Int)+2)=((M+2:Nat):Int):=by rw [AA _ JZ];rfl
  rw [w1,w2];simp only [tn,AM];refine aA (by simp only [aQ,aY,bL,bX,AN]) (aB (λc=>i (λe=>by rw [e.2]at c;cases c)) (λV=>aB (λA=>?_) (λc=>i (λe=>?_))))
  case refine_2=>
   rw [beq_eq_false_iff_ne]at c;have:=(j e.1).1;omega
  rw [beq_iff_eq]at A;refine aB (λD=>?_) (λc=>i (λe=>by rw [decide_eq_false_iff_not]at c;have:=j e.1;omega));refine aB (λR=>?_) (λc=>i (λe=>by rw [decide_eq_false_iff_not]at c;have:=j e.1;omega));rw [decide_eq_true_eq]at D R;have m:k.length=2*M+1:=JZ;have y:0<k.length:=JZ;have z:M+1<k.length:=JZ;refine aA (by simp;omega) (fD y rfl (aB (λG=>?_) (λc=>i (λe=>?_))))
  case refine_2=>
   rw [beq_eq_false_iff_ne]at c;have:=(g e.1).1;rw [AB y,AC]at this;exact c this
  rw [beq_iff_eq]at G;refine aA (by simp;omega) ⟨(k.drop 1).take M,⟨by rw [AW,DJ];omega,by rw [show M+1-1=M by omega,FA,FB]⟩,by rw [AW];omega,aB (λT=>?_) (λc=>i (λe=>by rw [(g e.1).2.1]at c;cases c))⟩;refine aA (by simp;omega) (fD z rfl (aB (λK=>?_) (λc=>i (λe=>?_))))
  case refine_2=>
   rw [beq_eq_false_iff_ne]at c;have:=(g e.1).2.2.1;rw [AB z,AC]at this;exact c this
  rw [beq_iff_eq]at K;refine aA (by simp;omega) ⟨k.drop (M+2),⟨by rw [DJ],by rw [AJ KB,FB]⟩,by rw [DJ];omega,?_⟩;split
  .rename_i r;have u:vS k=true:=c8Q m JZ JZ (by rw [AB y,G]) T (by rw [AB z,K]) r;unfold bW at hk;rw [if_pos rfl,if_pos ⟨u,by simpa using V⟩]at hk;exact hk
  .rename_i r;exact i (λe=>r (g e.1).2.2.2)
 .exact hk.elim
def Cz:=aV 122 Ee a0T
theorem Of:aS env Cz:=aE Yc (a8A)
def Ec(xs:Y14)(h:Heap)(K:KT):Prop:=match xs with
 | [.vslice none e0 n0 3 c0,.agg [.int .i64 25,.int .i64 im,.vslice none e1 n1 1 c1],.vslice none e2 n2 1 c2]=> ∃(l:Y15)(ks k:Y12),(n0=l.length/\c0=l.flatMap cN)/\(n1=ks.length/\c1=ks.map (IV.int .i64))/\(n2=k.length/\c2=k.map (IV.int .i64))/\(ks.length=k.length/\k.length<=1000000/\l.length<=1000000/\(∀q∈ks,0<=q/\q<l.length)/\(k=[3]->eK l ⟨25,im,ks⟩%2=1)/\∀n∈l,n.ks.length<=1000000)/\K (.int .i64 (bW (eK l ⟨25,im,ks⟩) 25 im k)) h
 |_=>False
theorem c4P(l:Y15)(g:Int)(ks k:Y12)(e0 i j:Nat)(h:Heap)(Q:KT):dF (aU Cz) env 122 cC bD bD [.vslice none e0 (l).length 3 ((l).flatMap cN),.agg [.int .i64 25,.int .i64 g,.vslice none i ks.length 1 (ks.map (IV.int .i64))],.vslice none j (k).length 1 ((k).map (IV.int .i64))] h Q=(
 oB l g ks k Q h 25 ((ks.length:Int) !=1) (aK (!jQ 25 g) (Q (.int .i64 0) h) (cT 0 k 0 (λm=>aK (m !=3) (Q (.int .i64 0) h) (cT 0 ks 0 (λr=>O1 l g Q h r)))))):=by kernel_rfl
theorem Ya: ∀xs h Q,Ec xs h Q->aM env 122 xs h Q:=by
 intro xs h Q hk;unfold Ec at hk;split at hk
 .rename_i e0 n0 A g R n1 r T n2 D;obtain⟨l,ks,k,⟨rfl,rfl⟩,⟨rfl,rfl⟩,⟨rfl,rfl⟩,V,hk⟩:=hk;refine aL (Of) (c4P l g ks k e0 R T h Q) ?_;delta qO kJ jI oB cT O1 wW iI; (try dsimp -iota -proj only);have tn: ∀x:Nat,(x:Int).toNat=x:=AK
  obtain⟨m,X,Y,G,y,u⟩:=V;have z: ¬ (k=[3]/\0<=g/\g<=15/\2*g+3<=(eK l ⟨25,g,ks⟩:Int))->Q (.int .i64 0) h:=λe=>by
   unfold bW at hk;rw [if_neg KA,if_neg KA,if_pos rfl,if_neg e]at hk;exact hk
  have O:jQ 25 g=true ↔ (0<=g/\g<=15):=by
   have:Ab 25=15:=KA;unfold jQ
   rw [decide_eq_true_eq,this];omega
  refine aA (by simp only [aQ,aY,bL,bX,AN]) (aB (λc=>z (λe=>?_)) (λA=>aB (λc=>z (λe=>?_)) (λr=>?_)))
  .rw [e.1]at m;rw [bne_iff_ne,m]at c;exact c rfl
  .rw [O.2 ⟨e.2.1,e.2.2.1⟩]at c
   cases c
  rw [bne_eq_false_iff_eq]at A;rw [CA]at r;rw [O]at r
  match ks,k,m,A with
  | [q],[s],_,_=>
   have hq:=G q BG;refine aA KB (cO (l:=[s]) (i:=0) KB (aB (λc=>z (λe=>?_)) (λD=>?_)))
   .rw [bne_iff_ne]at c;have:=e.1;rw [BE]at this;exact c this.1
   rw [bne_eq_false_iff_eq]at D;have Z:s=3:=D;subst Z;have ho:=y rfl;have j:q.toNat<l.length:=JZ;have L:eK l ⟨25,g,[q]⟩=(l[q.toNat]).ks.length:=by
    show(l.getD q.toNat default).ks.length=_;rw [AH,AB j];rfl
   rw [L]at ho z;refine aA KB (cO (l:=[q]) (i:=0) KB (aA (by simp;omega) (C8 j rfl (aB (λc=>z (λe=>?_)) (λK=>?_)))))
   .rw [decide_eq_true_eq,BQ JZ]at c;have h4:=u _ (AG j);rw [AA _ JZ]at c;omega
   .rw [decide_eq_false_iff_not,BQ JZ]at K;have h4:=u _ (AG j);rw [AA _ JZ]at K;unfold bW at hk;rw [if_neg KA,if_neg KA,if_pos rfl,if_pos ⟨rfl,r.1,r.2,by rw [L];omega⟩]at hk;refine bN hk ?_
    congr 1
    by_cases e:g=0
    .subst e;rfl
    .rw [if_neg e,if_neg (by simpa using e)];rfl
 .exact hk.elim
def Cy:=aV 122 Ec Cz
theorem Oe:aS env Cy:=aE Ya (Of)
def Ed(xs:Y14)(h:Heap)(K:KT):Prop:=match xs with
 | [.vslice none e0 n0 3 c0,.agg [.int .i64 30,.int .i64 im,.vslice none e1 n1 1 c1],.vslice none e2 n2 1 c2]=> ∃(l:Y15)(ks k:Y12),(n0=l.length/\c0=l.flatMap cN)/\(n1=ks.length/\c1=ks.map (IV.int .i64))/\(n2=k.length/\c2=k.map (IV.int .i64))/\(ks.length=k.length/\k.length<=1000000/\l.length<=1000000/\(∀q∈ks,0<=q/\q<l.length)/\(k=[3]->eK l ⟨30,im,ks⟩%2=1)/\∀n∈l,n.ks.length<=1000000)/\K (.int .i64 (bW (eK l ⟨30,im,ks⟩) 30 im k)) h
 |_=>False
theorem c4Q(l:Y15)(g:Int)(ks k:Y12)(e0 i j:Nat)(h:Heap)(Q:KT):dF (aU Cy) env 122 cC bD bD [.vslice none e0 (l).length 3 ((l).flatMap cN),.agg [.int .i64 30,.int .i64 g,.vslice none i ks.length 1 (ks.map (IV.int .i64))],.vslice none j (k).length 1 ((k).map (IV.int .i64))] h Q=(
 oB l g ks k Q h 30 (!jQ 30 g) (N9 k Q h)):=by kernel_rfl
theorem Yb: ∀xs h Q,Ed xs h Q->aM env 122 xs h Q:=by
 intro xs h Q hk;unfold Ed at hk;split at hk
 .rename_i e0 Z X y A n1 Y D n2 i;obtain⟨l,ks,k,⟨rfl,rfl⟩,⟨rfl,rfl⟩,⟨rfl,rfl⟩,L,hk⟩:=hk;refine aL (Oe) (c4Q l y ks k e0 A D h Q) ?_;delta qO kJ jI oB cT xT pA N9 iI; (try dsimp -iota -proj only);have tn: ∀x:Nat,(x:Int).toNat=x:=AK
  obtain⟨O,R,T,V,u,K⟩:=L;have j: ¬ (zX k=true/\jQ 30 y=true)->Q (.int .i64 0) h:=λe=>by
   unfold bW at hk;rw [if_neg KA,if_pos rfl,if_neg e]at hk;exact hk
  refine aA (by simp only [aQ,aY,bL,bX,AN]) (aB (λc=>j (λe=>by rw [e.2]at c;cases c)) (λm=>?_));rw [CA]at m
  cases k with
  |nil=>exact cV (λc=>absurd c KB) (λ_=>j (λe=>by cases e.1))
  |cons a r=>
   have g:(a::r).length=r.length+1:=AS;refine cV (λ_=>cV (λz=>aA (by rw [BD,decide_eq_true_eq,g];omega) (cW (n:=a) rfl (aB (λi=>aA (by simp only [BD,AE,decide_eq_true_eq,g];omega) ⟨r,⟨by rw [AK,g];omega,?_⟩,JZ,?_⟩) (λi=>j (λe=>?_))))) (λz=>j (λe=>?_))) (λc=>absurd c (by rw [g];omega))
   .rw [AK,g,BN,EF,DB,AJ (by rw [AX];omega)]
   .rw [beq_iff_eq]at i;have G:r.length<=6:=JZ
    by_cases ca:(r.all λx=>decide (x=1))=true
    .rw [if_pos ca];unfold bW at hk;rw [if_neg KA,if_pos rfl,if_pos ⟨by simp only [zX,AE,decide_eq_true_eq];exact⟨G,i,ca⟩,m⟩]at hk;exact hk
    .rw [if_neg ca];refine j (λe=>ca ?_);have:=e.1;simp only [zX,AE]at this;exact this.2.2
   .rw [beq_eq_false_iff_ne]at i;have:=e.1;simp only [zX,AE,decide_eq_true_eq]at this;exact i this.2.1
   .have:=e.1;simp only [zX,AE,decide_eq_true_eq]at this;omega
 .exact hk.elim
def Us:=aV 122 Ed Cy
theorem b2A:aS env Us:=aE Yb (Oe)
def Rj(xs:Y14)(h:Heap)(K:KT):Prop:=match xs with
 | [.vslice none e0 n0 3 c0,.agg [.int .i64 op,.int .i64 im,.vslice none e1 n1 1 c1],.vslice none e2 n2 1 c2]=> ∃(l:Y15)(ks k:Y12),(n0=l.length/\c0=l.flatMap cN)/\(n1=ks.length/\c1=ks.map (IV.int .i64))/\(n2=k.length/\c2=k.map (IV.int .i64))/\(True/\ks.length=k.length/\k.length<=1000000/\l.length<=1000000/\(∀q∈ks,0<=q/\q<l.length)/\(k=[3]->eK l ⟨op,im,ks⟩%2=1)/\∀n∈l,n.ks.length<=1000000)/\K (.int .i64 (bW (eK l ⟨op,im,ks⟩) op im k)) h
 |_=>False
theorem d0K: ∀xs h Q,Rj xs h Q->aM env 122 xs h Q:=by
 intro xs h Q hk;unfold Rj at hk;split at hk
 .rename_i e0 z i op y r A j u D m;obtain⟨l,ks,k,⟨rfl,rfl⟩,⟨rfl,rfl⟩,⟨rfl,rfl⟩,⟨_,g⟩,hk⟩:=hk
  by_cases o31:op=31
  .subst o31;exact Yc _ _ _ ⟨l,ks,k,⟨rfl,rfl⟩,⟨rfl,rfl⟩,⟨rfl,rfl⟩,g,hk⟩
  by_cases o25:op=25
  .subst o25;exact Ya _ _ _ ⟨l,ks,k,⟨rfl,rfl⟩,⟨rfl,rfl⟩,⟨rfl,rfl⟩,g,hk⟩
  by_cases h30:op=30
  .subst h30;exact Yb _ _ _ ⟨l,ks,k,⟨rfl,rfl⟩,⟨rfl,rfl⟩,⟨rfl,rfl⟩,g,hk⟩
  unfold bW at hk;rw [if_neg o31,if_neg h30,if_neg o25]at hk;exact c3N _ _ _ ⟨l,ks,k,⟨rfl,rfl⟩,⟨rfl,rfl⟩,⟨rfl,rfl⟩,⟨⟨o25,h30,o31⟩,g.1,JZ⟩,hk⟩
 .exact hk.elim
def Pr:=aV 122 Rj Us
theorem Xc:aS env Pr:=aE d0K (b2A)
def f1L(l:Y15):Inv':= .or
 (dL Heap (λ_=>[(0,.v (.vslice none 0 (l).length 3 ((l).flatMap cN))),(4,.v (.int .i64 0)),(3,.v .nilslice)]) (λ_=>[]) (λx=>x) (λ_=>True) (λ_=>l.length))
 (dL (Nat×Nat×Heap) (λx=>[(0,.v (.vslice none 0 (l).length 3 ((l).flatMap cN))),(4,.v (.int .i64 x.1)),(3,.v (.vslice (some x.2.1) x.1 x.1 1 ((aD (l.take x.1)).map (IV.int .i64))))]) (λ_=>[]) (λx=>x.2.2) (λx=>SO l x.1 x.2.1 x.2.2) (λx=>l.length-x.1))
def f1J(l:Y15):Inv':= .or
 (dL Heap (λ_=>[(0,.v (.vslice none 0 (l).length 3 ((l).flatMap cN))),(4,.v (.int .i64 0)),(3,.v .nilslice),(5,.v .nilslice),(6,.v (.bool true)),(7,.v (.int .i64 0))]) (λ_=>[]) (λx=>x) (λ_=>0<l.length) (λ_=>l.length*1000002+eS l 0 0))
 (.or
 (dL (Nat×Nat×Heap) (λx=>[(0,.v (.vslice none 0 (l).length 3 ((l).flatMap cN))),(4,.v (.int .i64 x.1)),(3,.v (.vslice (some x.2.1) x.1 x.1 1 ((aD (l.take x.1)).map (IV.int .i64)))),(5,.v .nilslice),(6,.v (.bool true)),(7,.v (.int .i64 0))]) (λ_=>[]) (λx=>x.2.2) (λx=>x.1<l.length/\SO l x.1 x.2.1 x.2.2) (λx=>(l.length-x.1)*1000002+eS l x.1 0))
 (dL (Nat×Nat×Heap×Nat×Y12×Nat) (λx=>[(0,.v (.vslice none 0 (l).length 3 ((l).flatMap cN))),(4,.v (.int .i64 x.1)),(3,.v (.vslice (some x.2.1) x.1 x.1 1 ((aD (l.take x.1)).map (IV.int .i64)))),(5,.v (.vslice (some x.2.2.2.2.2) x.2.2.2.2.1.length x.2.2.2.2.1.length 1 (x.2.2.2.2.1.map (IV.int .i64)))),(6,.v (.bool true)),(7,.v (.int .i64 x.2.2.2.1))]) (λ_=>[]) (λx=>x.2.2.1)
  (λx=>x.1<l.length/\SO l x.1 x.2.1 x.2.2.1/\T4 l x.1 x.2.2.2.1 x.2.2.2.2.1/\SK x.2.2.2.2.1 x.2.1 x.2.2.2.2.2 x.2.2.1) (λx=>(l.length-x.1)*1000002+eS l x.1 x.2.2.2.1)))
def Rw(xs:Y14)(h:Heap)(K:KT):Prop:=match xs with
 | [.vslice none e1 n1 3 c1]=> ∃l:Y15,(n1=l.length/\c1=l.flatMap cN)/\((∀x∈l,x.ks.length<=1000000/\True)/\l.length<=1000000)/\K (.vslice none 0 (aD l).length 1 ((aD l).map (IV.int .i64))) h
 |_=>False
def T3:=IV.int .i64
def gV(g:Nat×Nat×Heap×Nat×Y12×Nat):Nat×Y12×Nat:=g.2.2.2
def fT(g:Nat×Nat×Heap×Nat×Y12×Nat):Y12:=((gV g).2).1
def a5W(g:Nat×Nat×Heap×Nat×Y12×Nat):=(fT g).length+1
def Ln(l:Y15):=List.flatMap cN l
def a5X(g:Nat×Nat×Heap×Nat×Y12×Nat):=((gV g).2).2
def E4(l:Y15):=l.length
def b3W:=IObj.tip 1
def Mk(g:Nat×Nat×Heap×Nat×Y12×Nat):=(gV g).1
def tE(l:Y15)(g:Int)(i:Int)(j:IV)(m:IV)(r:Prop):Prop:=some (TV.v (.vslice none 0 (E4 l) 3 (Ln l)))=some (TV.v (.vslice none 0 (E4 l) 3 (Ln l)))/\tI g=tI i/\some (TV.v j)=some (TV.v m)/\r
def qA(l:Y15)(i:Nat)(g:Nat):IV:=IV.vslice (some i) g g 1 (List.map T3 (aD (List.take g l)))
def N5(l:Y15)(i:Int)(j:IV)(r:Heap->Prop)(u:Nat×Nat×Heap->Prop):Prop:=(∃(m:Heap),tE l i 0 j IV.nilslice (r m)) \/ ∃(g:Nat×Nat×Heap),tE l i (g.1:Int) j (qA l g.2.1 g.1) (u g)
def O0(l:Y15)(g:Nat×Nat×Heap):Prop:=(0<g.1/\g.1<=l.length)/\Heap.get g.2.2 g.2.1=IObj.tip g.1/\g.2.1<g.2.2.next
def zS(g:Int)(i:Int)(j:Prop):Prop:=some (TV.v (.bool true))=some (TV.v (.bool true))/\tI g=tI i/\j
def N4(l:Y15)(j:Int)(m:IV)(r:IV)(u:Int)(z:Heap->Prop)(A:Nat×Nat×Heap->Prop)(D:Nat×Nat×Heap×Nat×Y12×Nat->Prop):Prop:=(∃(y:Heap),tE l j 0 m IV.nilslice (some (TV.v r)=some (TV.v IV.nilslice)/\zS u 0 (z y))) \/ (∃(i:Nat×Nat×Heap),tE l j (i.1:Int) m (qA l i.2.1 i.1) (some (TV.v r)=some (TV.v IV.nilslice)
 /\zS u 0 (A i))) \/ ∃(g:Nat×Nat×Heap×Nat×Y12×Nat),tE l j (g.1:Int) m (qA l g.2.1 g.1) (some (TV.v r)=some (TV.v (.vslice (some (((gV g).2).2)) ((fT g).length) (List.length
 (fT g)) 1 (List.map T3 (fT g))))/\zS u (↑((gV g).1):Int) (D g))
def Jd(l:Y15)(O:Bool)(z:Bool)(R:Nat)(T:Nat->Bool)(V:Nat)(X:Int->Prop)(Y:Nat)(Z:Nat)(a0:Nat)(a1:Y12->Prop)(a2:Y15->Y12->Y12->Int->Int->Prop):Prop:=aK O (aF z (bM 1 (Ln l) R λa3 a4 A D=>aF (T A) (aN .i64 D V λG=>X G))) (aF z (aN .i64 (Ln l) Y λr=>aN .i64 (Ln l) Z λu=>bM 1 (Ln l) a0 λa5 a6 K L=> ∃ (g:
 Y15),∃(i j:Y12),(l.length=g.length/\List.flatMap cN l=List.flatMap cN g)/\(K=i.length/\L=List.map T3 i)/\(a1 j)/\(True/\i.length=j.length/\j.length<=1000000/\g.length<=1000000/\(∀(m:Int),m∈i
 ->0<=m/\m< (g.length:Int))/\(j=[(3:Int)]->eK g (Nd.mk r u i)% (2:Nat)=1)/\∀(y:Nd),y∈g->List.length (Nd.ks y)<=1000000)/\a2 g i j r u))
def N8(l:Y15)(i:Heap)(r:Prop)(u:Nat×Nat×Heap->Prop)(m:Int):Prop:=N5 l 1 (IV.vslice (some (i.next)) 1 1 1 [iI m]) (λj=>i.push b3W=j/\True/\r) (λg=>i.push b3W=g.2.2/\(O0 l g)/\u g)
def zT(g:Int)(i:Nat):Bool:=decide (0<=g) &&decide (g< (i:Int))
def xQ(l:Y15)(D:Prop)(G:Nat×Nat×Heap->Prop)(y:Nat)(m:Nat)(g:Nat)(z:Int)(j:Nat)(A:Int)(r:Heap):Prop:=aF (Nat.beq y m&&Nat.ble (g*8) 140737488355328) (N5 l (wW (z+1)) (IV.vslice (some j) g g 1 (List.map T3 (aD (List.take m l))++ [iI A])) (λu=>r.set j (IObj.tip g)=u/\True/\D) (λi=>r.set
 j (IObj.tip g)=i.2.2/\(O0 l i)/\G i))
def Jc(l:Y15)(D:Prop)(G:Nat×Nat×Heap->Prop)(Z:Int)(a0:Nat)(g:Int)(a1:Nat->Bool)(a2:Nat)(j:Heap)(m:Nat)(r:Nat)(u:Nat)(a3:Int->Prop)(a4:Y12->Prop):Prop:=Jd l (decide (Z< (a0:Int))) (decide (0<=g) &&decide (g< ((E4 l):Int))) (g.toNat*3+2) (λK=>(a1 K)) a2 (λi=>aK (decide (i<0)) (lL j m λL=>xQ l D G L r u g m 0 j) (aK
 (decide (i>=g)) (lL j m λO=>xQ l D G O r u g m 0 j) (aF (decide (0<=i) &&decide (i<g)) (aN .i64 (List.map T3 (aD (List.take r l))) (i.toNat*1) λR=>aK (R==0) (lL j m fun
 zb187=>xQ l D G zb187 r u g m 0 j) (aF (decide (0<=i) &&decide (i<g)) (aN .i64 (List.map T3 (aD (List.take r l))) (i.toNat*1) λT=>a3 T)))))) (g.toNat*3) (g.toNat*3+1) (g.toNat*3+1+1) (fun
 y=>(a4 y)) (λV X y z A=>lL j m λY=>xQ l D G Y r u g m (bW (eK V (Nd.mk z A X)) z A y) j)
def xS(l:Y15)(g:Nat×Nat×Heap):Prop:=g.1<l.length/\SO l g.1 g.2.1 g.2.2
def kE(g:Nat×Nat×Heap×Nat×Y12×Nat):Heap:=g.2.2.1
def xR(l:Y15)(g:Nat×Nat×Heap×Nat×Y12×Nat):Prop:=g.1<l.length/\SO l g.1 g.2.1 (kE g)/\T4 l g.1 ((gV g).1) (fT g)/\SK (fT g) g.2.1 (((gV g).2).2) (kE g)
def Ja(l:Y15)(M:Nat)(b1:Int)(b2:IV)(b3:Heap->Prop)(b4:Nat×Nat×Heap->Prop)(b5:Nat×Nat×Heap×Nat×Y12×Nat->Prop)(D:Prop)(G:Nat×Nat×Heap->Prop):Prop:=(N4 l b1 b2 IV.nilslice 0 (λa8=>b3 a8) (λa9=>b4 a9) (λb0=>b5 b0))/\(∀(z:Heap)(b6:FF),0<l.length->l.length*1000002+eS l 0 0<=M->aF (true&&decide (0< ((E4 l):Int))) (bM 1 (Ln l) 2 λb7 b8 V b9=>Jd
 l (decide (0< (V:Int))) (true&&decide (0< ((E4 l):Int))) 2 (λX=>(true&&decide (0< (X:Int)))) 0 (λK=>aK (decide (K<0)) (N8 l z D G 0) (aK (decide (K>=0)) (N8 l z D G 0) False)) 0 1
 (2:Nat) (λu=>((0:Nat)=u.length/\[]=List.map T3 u)) (λY Z u L O=>(N8 l z D G (bW (eK Y (Nd.mk L O Z)) L O u)))))/\(∀(i:Nat×Nat×Heap)(c0:FF),i.1<l.length/\SO l i.1 i.2.1 i.2.2->(l.length
 -i.1)*1000002+eS l i.1 0<=M->aF (zT (i.1:Int) (E4 l)) (bM 1 (Ln l) ((i.1:Int).toNat*3+2) λc1 c2 a0 c3=>Jc l D G 0 a0 (i.1:Int) (λa1=>(true&&decide (0< (a1:Int)))) 0 i.2.2 i.2.1 i.1
 (i.1+1) (λa2=>N4 l (i.1:Int) (qA l i.2.1 i.1) (IV.vslice (some (i.2.2.next)) 1 1 1 [iI a2]) 1 (λa3=>i.2.2.push b3W=a3/\Nat.le 1 (E4 l)/\l.length*1000002+eS l 0 0< (l.length-i.1)*1000002+eS
 l i.1 0) (λy=>i.2.2.push b3W=y.2.2/\(xS l y)/\(l.length-y.1)*1000002+eS l y.1 0< (l.length-i.1)*1000002+eS l i.1 0) (λr=>i.2.2.push b3W=r.2.2.1/\(xR l r)/\(l.length-r.1)*1000002
 +eS l r.1 ((gV r).1)< (l.length-i.1)*1000002+eS l i.1 0)) (λR=>((0:Nat)=R.length/\[]=List.map T3 R))))/\∀(g:Nat×Nat×Heap×Nat×Y12×Nat)(c4:FF),g.1<l.length/\SO l g.1 g.2.1 (kE g)/\T4
 l g.1 (Mk g) (fT g)/\SK (fT g) g.2.1 (a5X g) (kE g)->(l.length-g.1)*1000002+eS l g.1 (Mk g)<=M->aF (zT (g.1:Int) (E4 l)) (bM 1 (Ln l) ((g.1:Int).toNat*3+2) λc5 c6 a4 c7=>Jc l D G
 ((Mk g):Int) a4 (g.1:Int) (λa5=>(zT ((Mk g):Int) a5)) (((Mk g):Int).toNat*1) (kE g) g.2.1 g.1 (g.1+1) (λa6=>lL (kE g) (a5X g) λa7=>aF (Nat.beq a7 ((fT g).length) &&Nat.ble ((a5W
 g)*8) 140737488355328) (N4 l (g.1:Int) (qA l g.2.1 g.1) (IV.vslice (some (a5X g)) (a5W g) (a5W g) 1 (List.map T3 (fT g)++ [iI a6])) (wW (((Mk g):Int)+1)) (λT=>(kE g).set (a5X g) (IObj.tip (a5W g))
 =T/\Nat.le 1 (E4 l)/\l.length*1000002+eS l 0 0< (l.length-g.1)*1000002+eS l g.1 (Mk g)) (λm=>(kE g).set (a5X g) (IObj.tip (a5W g))=m.2.2/\(xS l m)/\(l.length-m.1)*1000002+eS l m.1 0
 < (l.length-g.1)*1000002+eS l g.1 (Mk g)) (λj=>(kE g).set (a5X g) (IObj.tip (a5W g))=j.2.2.1/\(xR l j)/\(l.length-j.1)*1000002+eS l j.1 ((gV j).1)< (l.length-g.1)*1000002+eS l g.1 (Mk
 g)))) (λA=>((fT g).length=A.length/\List.map T3 (fT g)=List.map T3 A)))
theorem e4Y(l:Y15)(y:Nat)(h:Heap)(Q:KT):dF (aU Pr) env 63 cC (zE 4 (f1L l) (mJ 1000009 (f1J l))) bD [.vslice none y (l).length 3 ((l).flatMap cN)] h Q=(
 aF (aQ [IV.vslice none 0 (E4 l) 3 (Ln l)]) ((N5 l 0 IV.nilslice (λu=>Heap.mk PT.nil 0=u/\True/\True) (λj=>Heap.mk PT.nil 0=j.2.2/\(O0 l j)/\True))/\(∀(u:Heap)(b:FF),True->aK (decide (0< ((E4 l):Int))) (∃(M:Nat),Ja l M 0 IV.nilslice (λm=>u=m/\Nat.le 1 (E4 l)/\l.length*1000002+eS l 0 0<=M) (λg=>u=g.2.2/\(xS l g)/\(l.length-g.1)*1000002+eS l g.1 0<=M) (λi=>u=i.2.2.1/\(xR l i)/\(l.length-i.1)*1000002+eS l i.1 ((gV i).1)<=M) (l.length<l.length) (λg=>l.length-g.1<l.length)) (Q (.vslice none 0 0 1 []) h))/\∀(j:Nat×Nat×Heap)(b:FF),SO l j.1 j.2.1 j.2.2->aK (decide ((j.1:Int)< ((E4 l):Int))) (∃(M:Nat),Ja l M (j.1:Int) (qA l j.2.1 j.1) (λm=>j.2.2=m/\Nat.le 1 (E4 l)/\l.length*1000002+eS l 0 0<=M) (λg=>j.2.2=g.2.2/\(xS l g)/\(l.length-g.1)*1000002+eS l g.1 0<=M) (λi=>j.2.2=(i.2.2).1/\(xR l i)/\(l.length-i.1)*1000002+eS l i.1 ((gV i).1)<=M) (l.length<l.length-j.1) (λr=>l.length-r.1<l.length-j.1)) (aF (aQ [IV.vslice none 0 j.1 1 (List.map T3 (aD (List.take j.1 l)))]) (Q (.vslice none 0 j.1 1 (List.map T3 (aD (List.take j.1 l)))) h)))):=by kernel_rfl
theorem a4L: ∀xs h Q,Rw xs h Q->aM env 63 xs h Q:=by
 intro xs h Q hk;unfold Rw at hk;split at hk
 .rename_i e1 n1 R;obtain⟨l,⟨rfl,rfl⟩,hb,hk⟩:=hk;refine aL (Xc) (e4Y l e1 h Q) ?_;delta E4 Ln tE T3 qA N5 O0 zS gV fT N4 Jd b3W N8 zT xQ Jc xS kE xR Mk a5X a5W Ja tI wW iI; (try dsimp -iota -proj only);have tn: ∀x:Nat,(x:Int).toNat=x:=AK
  obtain⟨G,a0⟩:=hb;have a1: ∀{i:Nat}(h:i<l.length),l[i].ks.length<=1000000:=λh=>(G _ (AG h)).1
  have b3: ∀i,eS l i 0<=1000000:=λi=>by
   rcases BK i l.length with q|q
   .rw [fP q];have:=a1 q;omega
   .unfold eS
    rw [BP q];exact AR _
  refine aA (by simp only [aQ,aY,bX,AN]) ⟨.inl ⟨Heap.empty,KD,KD,KD,KD,trivial,trivial⟩,?_,?_⟩
  .rintro g _ _;refine aB (λc=>?_) (λc=>?_)
   .rw [decide_eq_true_eq]at c;have a3:0<l.length:=JZ;refine⟨l.length*1000002+eS l 0 0,.inl ⟨g,KD,KD,KD,KD,KD,KD,KD,a3,AF _⟩,?_,?_,?_⟩
    .rintro g _ y hM;refine aA (by simp;omega) (C8 y rfl (aB (λR=>?_) (λR=>?_)))
     .rw [decide_eq_true_eq]at R;have Y:0<l[0].ks.length:=JZ;have hm:l[0].ks[0] ∈l[0].ks:=AG Y;refine aA (by simp;omega) (C8 y rfl (aA (by simp;omega) (fD Y rfl (aB (λz=>?_) (λz=>aB (λT=>?_) (λT=>?_))))))
      .rw [decide_eq_true_eq]at z;exact(.inr ⟨(1,g.next,g.push (.tip 1)),KD,KD,(by rw [bR y,bY hm (mR z)];rfl),KD,⟨⟨Nat.one_pos,y⟩,aW,AQ _⟩,KE⟩)
      .rw [decide_eq_true_eq]at T;exact(.inr ⟨(1,g.next,g.push (.tip 1)),KD,KD,(by rw [bR y,bY hm (mQ (by show(0:Int)<=_;omega))];rfl),KD,⟨⟨Nat.one_pos,y⟩,aW,AQ _⟩,KE⟩)
      .rw [decide_eq_false_iff_not]at z T;omega
     .rw [decide_eq_false_iff_not]at R;have A:=(T4.zero y).lst y JZ;refine aA (by simp;omega) (uM (i:=0) (o:=0) y rfl ⟨l,l[0].ks,[],⟨rfl,rfl⟩,⟨rfl,rfl⟩,⟨rfl,rfl⟩,⟨(G _ (AG y)).2,A.2.1.symm,KB,a0,A.2.2.1,A.2.2.2,λn hn=>(G n hn).1⟩,?_⟩);exact(.inr ⟨(1,g.next,g.push (.tip 1)),KD,KD,(by rw [bR y,show cH (l.take 0) (aD (l.take 0)) l[0]=bW (eK l l[0]) l[0].op l[0].im []from A.1];rfl),KD,⟨⟨Nat.one_pos,y⟩,aW,AQ _⟩,KE⟩)
    .rintro⟨i,id,g⟩ _ ⟨m,⟨⟨K,L⟩,u,r⟩⟩ hM;dsimp only at m K L u r hM⊢;have a8:(aD (l.take i)).length=i:=by rw [bA,AW];omega
     have a7:=a1 m;simp only [fP m]at hM;refine aA (by simp;omega) (C8 m (by rw [tn]) (aB (λR=>?_) (λR=>?_)))
     .rw [decide_eq_true_eq]at R;have Y:0<l[i].ks.length:=JZ;have hm:l[i].ks[0] ∈l[i].ks:=AG Y;refine aA (by simp;omega) (C8 m (by rw [tn]) (aA (by simp;omega) (fD Y rfl (aB (λz=>?_) (λz=>aB (λT=>?_) (λT=>?_))))))
      .rw [decide_eq_true_eq]at z;exact bB u (aA (by simp only [AM,AE,bT,BB,true_and];omega) (.inr ⟨(i+1,id,g.set id (.tip (i+1))),KD,(by rw [AA _ JZ];rfl),(by rw [bR m,bY hm (mR z)];simp),KD,⟨⟨CO _,m⟩,aH,r⟩,KE⟩))
      .rw [decide_eq_true_eq]at T;exact bB u (aA (by simp only [AM,AE,bT,BB,true_and];omega) (.inr ⟨(i+1,id,g.set id (.tip (i+1))),KD,(by rw [AA _ JZ];rfl),(by rw [bR m,bY hm (mQ JZ)];simp),KD,⟨⟨CO _,m⟩,aH,r⟩,KE⟩))
      rw [decide_eq_false_iff_not]at z T;have V:(l[i].ks[0]).toNat< (aD (l.take i)).length:=JZ;refine aA (by simp;omega) (fD V (AM _) (aB (λD=>?_) (λD=>?_)))
      .rw [beq_iff_eq]at D;exact bB u (aA (by simp only [AM,AE,bT,BB,true_and];omega) (.inr ⟨(i+1,id,g.set id (.tip (i+1))),KD,(by rw [AA _ JZ];rfl),(by rw [bR m,bY hm (mS V D)];simp),KD,⟨⟨CO _,m⟩,aH,r⟩,KE⟩))
      rw [beq_eq_false_iff_ne]at D;obtain⟨k1,k2⟩:=lC JZ V D;have hs:=(T4.zero m).step m Y k1;rw [k2]at hs;refine aA (by simp;omega) (fD V (AM _) (.inr (.inr ⟨(i,id,g.push (.tip 1),1,[(aD (l.take i))[(l[i].ks[0]).toNat]],g.next),KD,KD,KD,KD,KD,KD,KD,⟨m,⟨⟨K,L⟩,by rw [aO r];exact u,BO r⟩,hs,⟨Nat.one_pos,aW,AQ _,KE⟩⟩,?_⟩)));dsimp only;rw [fP m,fP m];omega
     .rw [decide_eq_false_iff_not]at R;have A:=(T4.zero m).lst m JZ;refine aA (by simp;omega) (uM m (by rw [tn]) ⟨l,l[i].ks,[],⟨rfl,rfl⟩,⟨rfl,rfl⟩,⟨rfl,rfl⟩,⟨(G _ (AG m)).2,A.2.1.symm,KB,a0,A.2.2.1,A.2.2.2,λn hn=>(G n hn).1⟩,?_⟩);exact bB u (aA (by simp only [AM,AE,bT,BB,true_and];omega) (.inr ⟨(i+1,id,g.set id (.tip (i+1))),KD,(by rw [AA _ JZ];rfl),(by rw [bR m,A.1];simp),KD,⟨⟨CO _,m⟩,aH,r⟩,KE⟩))
    .rintro⟨i,id,g,j,k,a4⟩ _ ⟨m,⟨⟨K,L⟩,u,r⟩,X,⟨a6,a2,Z,O⟩⟩ hM;dsimp only at m K L u r X a6 a2 Z O hM⊢;have a8:(aD (l.take i)).length=i:=by rw [bA,AW];omega
     have a7:=a1 m;have b2:k.length=j:=by obtain⟨n,_,h2,_⟩:=X;exact h2.2
     simp only [fP m]at hM;refine aA (by simp;omega) (C8 m (by rw [tn]) (aB (λR=>?_) (λR=>?_)))
     .rw [decide_eq_true_eq]at R;have Y:j<l[i].ks.length:=JZ;have hm:l[i].ks[j] ∈l[i].ks:=AG Y;refine aA (by simp;omega) (C8 m (by rw [tn]) (aA (by simp;omega) (fD Y (by rw [AM,tn]) (aB (λz=>?_) (λz=>aB (λT=>?_) (λT=>?_))))))
      .rw [decide_eq_true_eq]at z;exact bB u (aA (by simp only [AM,AE,bT,BB,true_and];omega) (.inr ⟨(i+1,id,g.set id (.tip (i+1))),KD,(by rw [AA _ JZ];rfl),(by rw [bR m,bY hm (mR z)];simp),KD,⟨⟨CO _,m⟩,aH,r⟩,KE⟩))
      .rw [decide_eq_true_eq]at T;exact bB u (aA (by simp only [AM,AE,bT,BB,true_and];omega) (.inr ⟨(i+1,id,g.set id (.tip (i+1))),KD,(by rw [AA _ JZ];rfl),(by rw [bR m,bY hm (mQ JZ)];simp),KD,⟨⟨CO _,m⟩,aH,r⟩,KE⟩))
      rw [decide_eq_false_iff_not]at z T;have V:(l[i].ks[j]).toNat< (aD (l.take i)).length:=JZ;refine aA (by simp;omega) (fD V (AM _) (aB (λD=>?_) (λD=>?_)))
      .rw [beq_iff_eq]at D;exact bB u (aA (by simp only [AM,AE,bT,BB,true_and];omega) (.inr ⟨(i+1,id,g.set id (.tip (i+1))),KD,(by rw [AA _ JZ];rfl),(by rw [bR m,bY hm (mS V D)];simp),KD,⟨⟨CO _,m⟩,aH,r⟩,KE⟩))
      rw [beq_eq_false_iff_ne]at D;obtain⟨k1,k2⟩:=lC JZ V D;have hs:=X.step m Y k1;rw [k2]at hs;refine aA (by simp;omega) (fD V (AM _) (bB a2 (aA (by simp only [AM,AE,bT,BB,true_and];omega) (.inr (.inr ⟨(i,id,g.set a4 (.tip (k.length+1)),j+1,k++ [(aD (l.take i))[(l[i].ks[j]).toNat]],a4),KD,KD,KD,?_,KD,?_,KD,⟨m,⟨⟨K,L⟩,by rw [aG O.symm];exact u,r⟩,hs,⟨KB,by rw [aH];simp,Z,O⟩⟩,?_⟩)))))
      .simp
      .rw [AA _ JZ];rfl
      .dsimp only;rw [fP m,fP m];omega
     .rw [decide_eq_false_iff_not]at R;have A:=X.lst m JZ;refine aA (by simp;omega) (uM m (by rw [tn]) ⟨l,l[i].ks,k,⟨rfl,rfl⟩,⟨rfl,rfl⟩,⟨rfl,rfl⟩,⟨(G _ (AG m)).2,A.2.1.symm,JZ,a0,A.2.2.1,A.2.2.2,λn hn=>(G n hn).1⟩,?_⟩);exact bB u (aA (by simp only [AM,AE,bT,BB,true_and];omega) (.inr ⟨(i+1,id,g.set id (.tip (i+1))),KD,(by rw [AA _ JZ];rfl),(by rw [bR m,A.1];simp),KD,⟨⟨CO _,m⟩,aH,r⟩,KE⟩))
   .rw [decide_eq_false_iff_not]at c;have:l=[]:=CU JZ;subst this;exact hk
  .rintro⟨i0,b4,g0⟩ _ ⟨⟨a9,b0⟩,b1,a5⟩;dsimp only at a9 b0 b1 a5⊢;have b5:=b3 i0;refine aB (λc=>?_) (λc=>?_)
   .rw [decide_eq_true_eq]at c;have a3:i0<l.length:=JZ;refine⟨(l.length-i0)*1000002+eS l i0 0,.inr (.inl ⟨(i0,b4,g0),KD,KD,KD,KD,KD,KD,KD,⟨a3,⟨⟨a9,b0⟩,b1,a5⟩⟩,AF _⟩),?_,?_,?_⟩
    .rintro g _ y hM;exfalso;omega
    .rintro⟨i,id,g⟩ _ ⟨m,⟨⟨K,L⟩,u,r⟩⟩ hM;dsimp only at m K L u r hM⊢;have a8:(aD (l.take i)).length=i:=by rw [bA,AW];omega
     have a7:=a1 m;simp only [fP m]at hM;refine aA (by simp;omega) (C8 m (by rw [tn]) (aB (λR=>?_) (λR=>?_)))
     .rw [decide_eq_true_eq]at R;have Y:0<l[i].ks.length:=JZ;have hm:l[i].ks[0] ∈l[i].ks:=AG Y;refine aA (by simp;omega) (C8 m (by rw [tn]) (aA (by simp;omega) (fD Y rfl (aB (λz=>?_) (λz=>aB (λT=>?_) (λT=>?_))))))
      .rw [decide_eq_true_eq]at z;exact bB u (aA (by simp only [AM,AE,bT,BB,true_and];omega) (.inr ⟨(i+1,id,g.set id (.tip (i+1))),KD,(by rw [AA _ JZ];rfl),(by rw [bR m,bY hm (mR z)];simp),KD,⟨⟨CO _,m⟩,aH,r⟩,KE⟩))
      .rw [decide_eq_true_eq]at T;exact bB u (aA (by simp only [AM,AE,bT,BB,true_and];omega) (.inr ⟨(i+1,id,g.set id (.tip (i+1))),KD,(by rw [AA _ JZ];rfl),(by rw [bR m,bY hm (mQ JZ)];simp),KD,⟨⟨CO _,m⟩,aH,r⟩,KE⟩))
      rw [decide_eq_false_iff_not]at z T;have V:(l[i].ks[0]).toNat< (aD (l.take i)).length:=JZ;refine aA (by simp;omega) (fD V (AM _) (aB (λD=>?_) (λD=>?_)))
      .rw [beq_iff_eq]at D;exact bB u (aA (by simp only [AM,AE,bT,BB,true_and];omega) (.inr ⟨(i+1,id,g.set id (.tip (i+1))),KD,(by rw [AA _ JZ];rfl),(by rw [bR m,bY hm (mS V D)];simp),KD,⟨⟨CO _,m⟩,aH,r⟩,KE⟩))
      rw [beq_eq_false_iff_ne]at D;obtain⟨k1,k2⟩:=lC JZ V D;have hs:=(T4.zero m).step m Y k1;rw [k2]at hs;refine aA (by simp;omega) (fD V (AM _) (.inr (.inr ⟨(i,id,g.push (.tip 1),1,[(aD (l.take i))[(l[i].ks[0]).toNat]],g.next),KD,KD,KD,KD,KD,KD,KD,⟨m,⟨⟨K,L⟩,by rw [aO r];exact u,BO r⟩,hs,⟨Nat.one_pos,aW,AQ _,KE⟩⟩,?_⟩)));dsimp only;rw [fP m,fP m];omega
     .rw [decide_eq_false_iff_not]at R;have A:=(T4.zero m).lst m JZ;refine aA (by simp;omega) (uM m (by rw [tn]) ⟨l,l[i].ks,[],⟨rfl,rfl⟩,⟨rfl,rfl⟩,⟨rfl,rfl⟩,⟨(G _ (AG m)).2,A.2.1.symm,KB,a0,A.2.2.1,A.2.2.2,λn hn=>(G n hn).1⟩,?_⟩);exact bB u (aA (by simp only [AM,AE,bT,BB,true_and];omega) (.inr ⟨(i+1,id,g.set id (.tip (i+1))),KD,(by rw [AA _ JZ];rfl),(by rw [bR m,A.1];simp),KD,⟨⟨CO _,m⟩,aH,r⟩,KE⟩))
    .rintro⟨i,id,g,j,k,a4⟩ _ ⟨m,⟨⟨K,L⟩,u,r⟩,X,⟨a6,a2,Z,O⟩⟩ hM;dsimp only at m K L u r X a6 a2 Z O hM⊢;have a8:(aD (l.take i)).length=i:=by rw [bA,AW];omega
     have a7:=a1 m;have b2:k.length=j:=by obtain⟨n,_,h2,_⟩:=X;exact h2.2
     simp only [fP m]at hM;refine aA (by simp;omega) (C8 m (by rw [tn]) (aB (λR=>?_) (λR=>?_)))
     .rw [decide_eq_true_eq]at R;have Y:j<l[i].ks.length:=JZ;have hm:l[i].ks[j] ∈l[i].ks:=AG Y;refine aA (by simp;omega) (C8 m (by rw [tn]) (aA (by simp;omega) (fD Y (by rw [AM,tn]) (aB (λz=>?_) (λz=>aB (λT=>?_) (λT=>?_))))))
      .rw [decide_eq_true_eq]at z;exact bB u (aA (by simp only [AM,AE,bT,BB,true_and];omega) (.inr ⟨(i+1,id,g.set id (.tip (i+1))),KD,(by rw [AA _ JZ];rfl),(by rw [bR m,bY hm (mR z)];simp),KD,⟨⟨CO _,m⟩,aH,r⟩,KE⟩))
      .rw [decide_eq_true_eq]at T;exact bB u (aA (by simp only [AM,AE,bT,BB,true_and];omega) (.inr ⟨(i+1,id,g.set id (.tip (i+1))),KD,(by rw [AA _ JZ];rfl),(by rw [bR m,bY hm (mQ JZ)];simp),KD,⟨⟨CO _,m⟩,aH,r⟩,KE⟩))
      rw [decide_eq_false_iff_not]at z T;have V:(l[i].ks[j]).toNat< (aD (l.take i)).length:=JZ;refine aA (by simp;omega) (fD V (AM _) (aB (λD=>?_) (λD=>?_)))
      .rw [beq_iff_eq]at D;exact bB u (aA (by simp only [AM,AE,bT,BB,true_and];omega) (.inr ⟨(i+1,id,g.set id (.tip (i+1))),KD,(by rw [AA _ JZ];rfl),(by rw [bR m,bY hm (mS V D)];simp),KD,⟨⟨CO _,m⟩,aH,r⟩,KE⟩))
      rw [beq_eq_false_iff_ne]at D;obtain⟨k1,k2⟩:=lC JZ V D;have hs:=X.step m Y k1;rw [k2]at hs;refine aA (by simp;omega) (fD V (AM _) (bB a2 (aA (by simp only [AM,AE,bT,BB,true_and];omega) (.inr (.inr ⟨(i,id,g.set a4 (.tip (k.length+1)),j+1,k++ [(aD (l.take i))[(l[i].ks[j]).toNat]],a4),KD,KD,KD,?_,KD,?_,KD,⟨m,⟨⟨K,L⟩,by rw [aG O.symm];exact u,r⟩,hs,⟨KB,by rw [aH];simp,Z,O⟩⟩,?_⟩)))))
      .simp
      .rw [AA _ JZ];rfl
      .dsimp only;rw [fP m,fP m];omega
     .rw [decide_eq_false_iff_not]at R;have A:=X.lst m JZ;refine aA (by simp;omega) (uM m (by rw [tn]) ⟨l,l[i].ks,k,⟨rfl,rfl⟩,⟨rfl,rfl⟩,⟨rfl,rfl⟩,⟨(G _ (AG m)).2,A.2.1.symm,JZ,a0,A.2.2.1,A.2.2.2,λn hn=>(G n hn).1⟩,?_⟩);exact bB u (aA (by simp only [AM,AE,bT,BB,true_and];omega) (.inr ⟨(i+1,id,g.set id (.tip (i+1))),KD,(by rw [AA _ JZ];rfl),(by rw [bR m,A.1];simp),KD,⟨⟨CO _,m⟩,aH,r⟩,KE⟩))
   .rw [decide_eq_false_iff_not]at c;obtain rfl:i0=l.length:=JZ;rw [EC];exact aA (by simp only [aQ,aY,bL,AN]) (bN hk (by rw [bA]))
 .exact hk.elim
def b6R:=aV 63 Rw Pr
theorem c9U:aS env b6R:=aE a4L (Xc)
def Pt:=b6R
theorem Xd:aS env Pt:=c9U
def Rf(xs:Y14)(h:Heap)(K:KT):Prop:=match xs with
 | [.int .i64 op]=>K (.tuple [.int .i64 (ar op),.bool (vP op)]) h
 |_=>False
def c6D:=IV.tuple [.int .i64 0,IV.bool false]
def xU(op:Int)(Q:KT)(h:Heap)(g:Int)(i:Int)(j:Int)(l:Int)(m:Int)(r:Int)(u:Bool)(y:Prop)(z:Prop):Prop:=aK (op==g) (Q (.tuple [.int .i64 i,IV.bool true]) h) (aK (op==j) (Q (.tuple [.int .i64 l,IV.bool true]) h) (aK (op==m) (Q (.tuple [.int .i64 r,IV.bool true]) h) (aK u y z)))
theorem d1N(op:Int)(h:Heap)(Q:KT):dF (aU Pt) env 222 cC bD bD [.int .i64 op] h Q=(
 xU op Q h 1 0 2 0 3 0 (op==26) (Q (.tuple [.int .i64 0,IV.bool true]) h) (xU op Q h 20 1 21 1 24 1 (op==25) (Q (.tuple [.int .i64 1,IV.bool true]) h) (xU op Q h 23 2 27 2 29 2 (op==22) (Q (.tuple [.int .i64 3,IV.bool true]) h) (xU op Q h 28 3 30 (-1:Int) 31 (-1:Int) (decide (op>=4)) (aK (decide (op<=(19:Int))) (Q (.tuple [.int .i64 2,IV.bool true]) h) (Q c6D h)) (Q c6D h))))):=by kernel_rfl
theorem d0G: ∀xs h Q,Rf xs h Q->aM env 222 xs h Q:=by
 intro xs h Q hk;unfold Rf at hk;split at hk
 .rename_i op;refine aL (Xd) (d1N op h Q) ?_;delta xU c6D; (try dsimp -iota -proj only)
  repeat' (first|refine aA ?_ ?_|refine aB (λ_=>?_) (λ_=>?_)|refine And.intro ?_ ?_)
  all_goals first|assumption|omega| (refine bN hk ?_;simp only [IV.agg.injEq,IV.tuple.injEq,IV.int.injEq,IV.bool.injEq,BE,true_and,and_true];grind [ar,vP])
 .exact hk.elim
def Pm:=aV 222 Rf Pt
theorem Wy:aS env Pm:=aE d0G (Xd)
def b8P(xs:Y14)(h:Heap)(K:KT):Prop:=match xs with
 | [.int .i64 op]=>K (.vslice none 0 (E7 op).length 1 ((E7 op).map (IV.int .i64))) h
 |_=>False
def b0M:=[iI 2,iI 1]
def Jl(op:Int)(Q:KT)(h:Heap)(g:Int)(i:Nat)(D:Int)(j:Y14)(l:Int)(m:Nat)(r:Y14)(u:Int)(y:Nat)(G:Int)(z:Y14)(A:Prop):Prop:=aK (op==g) (Q (.vslice none 0 i 1 j) h) (aK (op==l) (Q (.vslice none 0 m 1 r) h) (aK (op==u) (Q (.vslice none 0 y 1 z) h) A))
theorem f2J(op:Int)(h:Heap)(Q:KT):dF (aU Pm) env 226 cC bD bD [.int .i64 op] h Q=(
 Jl op Q h 22 3 1 [iI 1,iI 1,iI 1] 23 2 b0M 27 2 2 b0M (Jl op Q h 29 2 2 b0M 28 3 [iI 2,iI 1,iI 1] 24 1 2 [iI 2] (aK (op==25) (Q (.vslice none 0 1 1 [iI 3]) h) (Q (.vslice none 0 2 1 [iI 1,iI 1]) h)))):=by kernel_rfl
theorem e9V: ∀xs h Q,b8P xs h Q->aM env 226 xs h Q:=by
 intro xs h Q hk;unfold b8P at hk;split at hk
 .rename_i op;refine aL (Wy) (f2J op h Q) ?_;delta Jl b0M iI; (try dsimp -iota -proj only);have fin: ∀w:Y12,E7 op=w->Q (.vslice none 0 (w).length 1 ((w).map (IV.int .i64))) h:=by
   rintro _ rfl;exact hk
  repeat' (refine aB (λ_=>?_) (λ_=>?_))
  all_goals simp only [beq_iff_eq,beq_eq_false_iff_ne]at*
  all_goals first|exact fin [1,1,1] (by simp [E7, *])|exact fin [2,1] (by simp [E7, *])|exact fin [2,1,1] (by simp [E7, *])|exact fin [2] (by simp [E7, *])|exact fin [3] (by simp [E7, *])|exact fin [1,1] (by simp [E7, *])
 .exact hk.elim
def b5I:=aV 226 b8P Pm
theorem c1J:aS env b5I:=aE e9V (Wy)
def e8N(s w:Y12):Inv':=dL Nat (λi=>[(0,.v (.vslice none 0 (s).length 1 ((s).map (IV.int .i64)))),(1,.v (.vslice none 0 (w).length 1 ((w).map (IV.int .i64)))),(5,.v (.int .i64 i))]) (λ_=>[]) (λ_=>Heap.empty)
 (λi=>i<=s.length/\∀j,j<i->s[j]?=w[j]?) (λi=>s.length-i)
def a2G(xs:Y14)(h:Heap)(K:KT):Prop:=match xs with
 | [.vslice none e1 n1 1 c1,.vslice none e2 n2 1 c2]=> ∃s w:Y12,(n1=s.length/\c1=s.map (IV.int .i64))/\(n2=w.length/\c2=w.map (IV.int .i64))/\(s.length<=w.length/\s.length<=1000000000)/\K (.bool (decide (s=w.take s.length))) h
 |_=>False
def Ay:=IV.int .i64
def kF(g:IV)(i:IV)(j:IV)(l:IV)(m:IV)(r:IV)(u:Prop):Prop:=some (TV.v g)=some (TV.v i)/\some (TV.v j)=some (TV.v l)/\some (TV.v m)=some (TV.v r)/\u
def gW(g:Y12):IV:=IV.vslice none 0 g.length 1 (List.map Ay g)
def O8(Q:KT)(h:Heap)(g:Nat)(i:Y12)(l:Int->Prop):Prop:=aK (decide ((g:Int)< (i.length:Int))) (aF (decide (0<=(g:Int)) &&decide ((g:Int)< (i.length:Int))) (aN .i64 (List.map Ay i) ((g:Int).toNat*1) λj=>l j)) (Q (.bool true) h)
theorem e4H(s w:Y12)(i l:Nat)(h:Heap)(Q:KT):dF (aU b5I) env 224 cC (mJ 3 (e8N s w)) bD [.vslice none i (s).length 1 ((s).map (IV.int .i64)),.vslice none l (w).length 1 ((w).map (IV.int .i64))] h Q=(
 aF (aQ [IV.vslice none 0 s.length 1 (List.map Ay s),IV.vslice none 0 w.length 1 (List.map Ay w)]) ((∃(x:Nat),kF (gW s) (gW s) (gW w) (gW w) (iI 0) (iI (x:Int)) (Heap.mk PT.nil 0=Heap.mk PT.nil 0/\(x<=s.length/\∀(j:Nat),j<x->s[j]?=w[j]?)/\True))/\∀(x:Nat)(b:FF),(x<=s.length/\∀(j:Nat),j<x->s[j]?=w[j]?)->O8 Q h x s (λm=>aF (decide (0<=(x:Int)) &&decide ((x:Int)< ((w.length):Int))) (aN .i64 (List.map Ay w) ((x:Int).toNat*1) λr=>aK (m !=r) (Q (.bool false) h) (∃(g:Nat),kF (gW s) (gW s) (gW w) (gW w) (iI (wW ((x:Int)+1))) (iI (g:Int)) (Heap.mk PT.nil 0=Heap.mk PT.nil 0/\(g<=s.length/\∀(j:Nat),j<g->s[j]?=w[j]?)/\s.length-g<s.length-x)))))):=by kernel_rfl
theorem e2Q: ∀xs h Q,a2G xs h Q->aM env 224 xs h Q:=by
 intro xs h Q hk;unfold a2G at hk;split at hk
 .rename_i y O m z R K;obtain⟨s,w,⟨rfl,rfl⟩,⟨rfl,rfl⟩,u,hk⟩:=hk;refine aL (c1J) (e4H s w y z h Q) ?_;delta Ay kF gW O8 wW iI; (try dsimp -iota -proj only);have G: ∀x:Nat,(x:Int).toNat=x:=AK
  obtain⟨L,u⟩:=u;refine aA (by simp only [aQ,aY,bL,AN]) ⟨⟨0,KD,KD,KD,KD,⟨AR _,λj D=>JZ⟩,trivial⟩,?_⟩;rintro i _ ⟨A,r⟩
  try dsimp only at A r⊢
  refine aB (λc=>?_) (λc=>?_)
  .rw [decide_eq_true_eq]at c;have g:i<s.length:=JZ;have l:i<w.length:=JZ;simp only [G];rw [AM];refine aA (by simp;omega) (cO g (aA (by simp;omega) (cO l (aB (λm=>?_) (λm=>⟨i+1,KD,KD,?_,KD,⟨g,λj D=>?_⟩,by(try dsimp only);omega⟩)))))
   .rw [decide_eq_false (λe=>?_)]at hk
    .exact hk
    .have:s[i]?=(w.take s.length)[i]?:=by rw [<-e]
     rw [DF g,AB g,AB l,AC]at this;rw [this]at m;simp at m
   .rw [AA _ JZ];rfl
   .rcases BK j i with q|q
    .exact r j q
    .obtain rfl:j=i:=JZ;rw [bne_eq_false_iff_eq]at m;rw [AB g,AB l,m]
  .rw [decide_eq_false_iff_not]at c;rw [decide_eq_true (DE λj=>?_)]at hk
   .exact hk
   .rcases BK j s.length with q|q
    .rw [DF q,r j JZ]
    .rw [BP q,BP (by simp;omega)]
 .exact hk.elim
def a0R:=aV 224 a2G b5I
theorem a7Y:aS env a0R:=aE e2Q (c1J)
def a2F(xs:Y14)(h:Heap)(K:KT):Prop:=match xs with
 | [.int .i64 k]=>(1<=k/\k<=1000000)/\K (.int .i64 ((k-1)/2)) h
 |_=>False
theorem e4G(k:Int)(h:Heap)(Q:KT):dF (aU a0R) env 223 cC bD bD [.int .i64 k] h Q=(
 Q (.int .i64 (wW (Int.tdiv (wW (k-1)) 2))) h):=by kernel_rfl
theorem e2P: ∀xs h Q,a2F xs h Q->aM env 223 xs h Q:=by
 intro xs h Q hk;unfold a2F at hk;split at hk
 .rename_i k;obtain⟨g,hk⟩:=hk;refine aL (a7Y) (e4G k h Q) ?_;delta wW;refine bN hk ?_
  congr 1
  rw [AA (k-1) JZ,BQ JZ,AA _ JZ]
 .exact hk.elim
def b5G:=aV 223 a2F a0R
theorem c9K:aS env b5G:=aE e2P (a7Y)
def Rh(xs:Y14)(h:Heap)(K:KT):Prop:=match xs with
 | [.int .i64 k]=> ∃m:Nat,(1<=m/\m<=16)/\k=2*(m:Int)+1/\∀w:Y12,w=lsL m->K (.vslice none 0 (w).length 1 ((w).map (IV.int .i64))) h
 |_=>False
theorem d0I: ∀xs h Q,Rh xs h Q->aM env 225 xs h Q:=by
 intro xs h Q hk;unfold Rh at hk;split at hk
 .rename_i k;obtain⟨m,hm,rfl,hk⟩:=hk;have h2:m=1\/m=2\/m=3\/m=4\/m=5\/m=6\/m=7\/m=8\/m=9\/m=10\/m=11\/m=12\/m=13\/m=14\/m=15\/m=16:=JZ;rcases h2 with rfl|rfl|rfl|rfl|rfl|rfl|rfl|rfl|rfl|rfl|rfl|rfl|rfl|rfl|rfl|rfl
  all_goals exact⟨400,_,h,by kernel_rfl,hk _ rfl⟩
 .exact hk.elim
def Pp:=aV 225 Rh b5G
theorem Xa:aS env Pp:=aE d0I (c9K)
def b9W(xs:Y14)(h:Heap)(K:KT):Prop:=match xs with
 | [.vslice none e0 n0 3 c0,.agg [.int .i64 op,.int .i64 im,.vslice none e1 n1 1 c1]]=> ∃(l:Y15)(ks:Y12),(n0=l.length/\c0=l.flatMap cN)/\(n1=ks.length/\c1=ks.map (IV.int .i64))/\op≠25/\K (.bool (jQ op im)) h
 |_=>False
def jD(j:Int)(Q:KT)(h:Heap)(g:Int)(i:Bool):Prop:=aK (decide (j>=g)) (Q (.bool i) h) (Q (.bool false) h)
def Yw(op:Int)(g:Int)(Q:KT)(h:Heap)(i:Int)(j:Int)(l:Int)(m:Int)(r:Int)(u:Int)(y:Int)(z:Int)(A:Int)(D:Int)(G:Prop)(K:Bool)(L:Prop)(O:Prop):Prop:=aK (op==i) (jD g Q h j (decide (g<=l))) (aK (op==m) (jD g Q h r (decide (g<=u))) (aK (op==y) (jD g Q h z (decide (g<=A))) (aK (op==D) G (aK K L O))))
def jC(j:Int)(g:Y12)(l:Nat)(m:Int->Prop):Prop:=aF (true&&decide (j< (g.length:Int))) (aN .i64 (List.map (IV.int .i64) g) l λi=>m i)
def O6(ks:Y12)(l:Y15)(u:Int)(Q:KT)(h:Heap):Prop:=jC 0 ks 0 (λg=>aF (decide (0<=g) &&decide (g< (l.length:Int))) (bM 1 (List.flatMap cN l) (g.toNat*3+2) λj m i r=>(1<=(i:Int)/\(i:Int)<=1000000)/\jD u Q h 0 (decide (u<=wW (((i:Int)
 -1)/ (2:Int)-1)))))
theorem f3P(l:Y15)(op g:Int)(ks:Y12)(e0 i:Nat)(h:Heap)(Q:KT):dF (aU Pp) env 206 cC bD bD [.vslice none e0 (l).length 3 ((l).flatMap cN),.agg [.int .i64 op,.int .i64 g,.vslice none i ks.length 1 (ks.map (IV.int .i64))]] h Q=(
 aF (aQ [IV.vslice none 0 l.length 3 (List.flatMap cN l),IV.agg [.int .i64 op,iI g,IV.vslice none 0 ks.length 1 (List.map (IV.int .i64) ks)]]) (aK (op==1) (Q (.bool true) h) (Yw op g Q h 2 0 5 3 0 255 23 0 3 28 (jD g Q h 0 (decide (g<=3))) (op==27) (jD g Q h 1 (decide (g<=1000016))) (aK (op==30) (jD g Q h 0 (decide (g<=7))) (aK (op==31) (jD g Q h 0 (decide (g<=15))) (aK (op==25) (O6 ks l g Q h) (jD g Q h 0 (decide (g<=0))))))))):=by kernel_rfl
theorem d6S: ∀xs h Q,b9W xs h Q->aM env 206 xs h Q:=by
 intro xs h Q hk;unfold b9W at hk;split at hk
 .rename_i e0 R O op m G T i;obtain⟨l,ks,⟨rfl,rfl⟩,⟨rfl,rfl⟩,K,hk⟩:=hk;refine aL (Xa) (f3P l op m ks e0 G h Q) ?_;delta jD Yw jC O6 wW iI; (try dsimp -iota -proj only);have fin: ∀b:Bool,(b=true ↔ jQ op m=true)->Q (.bool b) h:=λb e=>by
   rw [<-Bool.eq_iff_iff]at e;rw [e];exact hk
  have hm:Ab 2=5/\Ab 3=255/\Ab 23=3/\Ab 28=3/\Ab 27=1000016/\Ab 30=7/\Ab 31=15:=KA;refine aA (by simp only [aQ,aY,bL,bX,AN]) ?_;unfold jQ at fin;simp only [decide_eq_true_eq]at fin;refine aB (λi=>?_) (λi=>?_)
  .exact fin _ (by rw [beq_iff_eq]at i;simp [i])
  refine aB (λg=>?_) (λg=>?_)
  .rw [beq_iff_eq]at g;subst g;refine aB (λd=>fin _ ?_) (λd=>fin _ ?_)
   .rw [decide_eq_true_eq]at d⊢;omega
   .rw [decide_eq_false_iff_not]at d;simp only [BA,false_iff];omega
  refine aB (λg=>?_) (λr=>?_)
  .rw [beq_iff_eq]at g;subst g;refine aB (λd=>fin _ ?_) (λd=>fin _ ?_)
   .rw [decide_eq_true_eq]at d⊢;omega
   .rw [decide_eq_false_iff_not]at d;simp only [BA,false_iff];omega
  refine aB (λg=>?_) (λu=>?_)
  .rw [beq_iff_eq]at g;subst g;refine aB (λd=>fin _ ?_) (λd=>fin _ ?_)
   .rw [decide_eq_true_eq]at d⊢;omega
   .rw [decide_eq_false_iff_not]at d;simp only [BA,false_iff];omega
  refine aB (λg=>?_) (λy=>?_)
  .rw [beq_iff_eq]at g;subst g;refine aB (λd=>fin _ ?_) (λd=>fin _ ?_)
   .rw [decide_eq_true_eq]at d⊢;omega
   .rw [decide_eq_false_iff_not]at d;simp only [BA,false_iff];omega
  refine aB (λg=>?_) (λz=>?_)
  .rw [beq_iff_eq]at g;subst g;refine aB (λd=>fin _ ?_) (λd=>fin _ ?_)
   .rw [decide_eq_true_eq]at d⊢;omega
   .rw [decide_eq_false_iff_not]at d;simp only [BA,false_iff];omega
  refine aB (λg=>?_) (λA=>?_)
  .rw [beq_iff_eq]at g;subst g;refine aB (λd=>fin _ ?_) (λd=>fin _ ?_)
   .rw [decide_eq_true_eq]at d⊢;omega
   .rw [decide_eq_false_iff_not]at d;simp only [BA,false_iff];omega
  refine aB (λg=>?_) (λD=>?_)
  .rw [beq_iff_eq]at g;subst g;refine aB (λd=>fin _ ?_) (λd=>fin _ ?_)
   .rw [decide_eq_true_eq]at d⊢;omega
   .rw [decide_eq_false_iff_not]at d;simp only [BA,false_iff];omega
  refine aB (λj=>absurd (beq_iff_eq.1 j) K) (λj=>?_);rw [beq_eq_false_iff_ne]at i g r u y z A D j;have L:Ab op= -1:=by unfold Ab;rw [if_neg JZ,if_neg JZ,if_neg JZ,if_neg JZ,if_neg JZ,if_neg JZ]
  rw [L]at fin;refine aB (λd=>fin _ ?_) (λd=>fin _ ?_)
  .rw [decide_eq_true_eq]at d⊢;omega
  .rw [decide_eq_false_iff_not]at d;simp only [BA,false_iff];omega
 .exact hk.elim
def b6U:=aV 206 b9W Pp
theorem c2M:aS env b6U:=aE d6S (Xa)
def b9X(xs:Y14)(h:Heap)(K:KT):Prop:=match xs with
 | [.agg [.int .i64 op,.int .i64 im,.vslice none e1 n1 1 c1],.vslice none e2 n2 1 c2]=> ∃(ks s:Y12),(n1=ks.length/\c1=ks.map (IV.int .i64))/\(n2=s.length/\c2=s.map (IV.int .i64))/\((op≠25/\op≠30/\op≠31)/\s.length<=1000000)/\K (.bool (E0 op s)) h
 |_=>False
def vN:=IV.bool false
def B7:=IV.int .i64
def oM(s:Y12):=s.length
def qB(s:Y12)(Q:KT)(h:Heap)(j:Y12->Prop):Prop:= ∃(g i:Y12),(s.length=g.length/\List.map B7 s=List.map B7 g)/\(j i)/\(g.length<=i.length/\g.length<=1000000000)/\Q (.bool (decide (g=List.take g.length i))) h
def qC(g:Y12)(i:Y12):Prop:=(g.length=i.length/\List.map B7 g=List.map B7 i)
def O3(s:Y12)(Q:KT)(h:Heap):Prop:=aK (decide (((oM s):Int)>=3)) (aK (Int.tmod ((oM s):Int) 2==1) ((1<=((oM s):Int)/\((oM s):Int)<=1000000)/\aK (decide ((((oM s):Int)-1)/ (2:Int)<=16)) (∃(g:Nat),(1<=g/\g<=16)/\((oM s):Int)=2*(g:Int)+1/\∀ (i:
 Y12),i=2::(List.replicate g 1++(2:Int)::List.replicate (g-1) 1)->qB s Q h (λj=>qC i j)) (Q vN h)) (Q vN h)) (Q vN h)
def O5(s:Y12)(Q:KT)(h:Heap)(i:Prop):Prop:=aK (decide (((oM s):Int)<1)) (Q vN h) (aK (decide (((oM s):Int)>7)) (Q vN h) (jC 0 s 0 (λg=>aK (g !=2) (Q vN h) (aF (true&& (decide (1<=((oM s):Int)) &&decide (((oM s):Int)<=((oM s):Int)))) i))))
def Ji(op:Int)(s:Y12)(Q:KT)(h:Heap):Prop:=aK (op==31) (O3 s Q h) (aK (op==30) (O5 s Q h False) (aK (op==22) (jC 1 s 1 (λg=>aK (g==2) (jC 0 s 0 (λi=>aK (i==1) (jC 2 s 2 (λj=>Q (.bool (j==2)) h)) (Q vN h))) (qB
 s Q h (λl=>qC (E7 op) l)))) (qB s Q h (λm=>qC (E7 op) m))))
theorem f3Q(op g:Int)(ks s:Y12)(i j:Nat)(h:Heap)(Q:KT):dF (aU b6U) env 205 cC bD bD [.agg [.int .i64 op,.int .i64 g,.vslice none i ks.length 1 (ks.map (IV.int .i64))],.vslice none j (s).length 1 ((s).map (IV.int .i64))] h Q=(
 aF (aQ [IV.agg [.int .i64 op,iI g,IV.vslice none 0 ks.length 1 (List.map B7 ks)],IV.vslice none 0 (oM s) 1 (List.map B7 s)]) (aK (!vP op) (Q vN h) (aK (decide (ar op>=0)) (aK (ar op !=((oM s):Int)) (Q vN h) (Ji op s Q h)) (Ji op s Q h)))):=by kernel_rfl
theorem d6T: ∀xs h Q,b9X xs h Q->aM env 205 xs h Q:=by
 intro xs h Q hk;unfold b9X at hk;split at hk
 .rename_i op z r K g m L A;obtain⟨ks,s,⟨rfl,rfl⟩,⟨rfl,rfl⟩,u,hk⟩:=hk;refine aL (c2M) (f3Q op z ks s r m h Q) ?_;delta B7 oM vN qB qC O3 jC O5 Ji iI; (try dsimp -iota -proj only);obtain⟨h3,G⟩:=u;refine aA (by simp only [aQ,aY,bL,AN]) (aB (λc=>?_) (λc=>?_))
  .have e:E0 op s=false:=by unfold E0;simp at c;simp [c]
   rw [e]at hk;exact hk
  rw [CA]at c;have D:=e1Z c h3;refine aB (λ_=>?_) (λd=>by rw [decide_eq_false_iff_not]at d;omega);refine aB (λg=>?_) (λg=>?_)
  .have e:E0 op s=false:=by unfold E0;rw [bne_iff_ne]at g;simp [Ne.symm g]
   rw [e]at hk;exact hk
  rw [bne_eq_false_iff_eq]at g;have y:E0 op s=(if op=22/\s.getD 1 0=2 then decide (s=[1,2,2])else decide (s=(E7 op).take s.length)):=by
   unfold E0
   rw [c,decide_eq_true g.symm];rfl
  rw [y]at hk;refine aB (λd=>absurd (beq_iff_eq.1 d) h3.2.2) (λ_=>aB (λd=>absurd (beq_iff_eq.1 d) h3.2.1) (λ_=>aB (λd=>?_) (λd=>?_)))
  .rw [beq_iff_eq]at d;subst d;obtain⟨a,b,e,rfl⟩:=e0Y (g.symm.trans KA);refine aA KB (cO (l:=[a,b,e]) (i:=1) KB (aB (λf=>aA KB (cO (l:=[a,b,e]) (i:=0) KB (aB (λj=>aA KB (cO (l:=[a,b,e]) (i:=2) KB ?_)) (λj=>?_)))) (λf=>⟨[a,b,e],E7 22,⟨rfl,rfl⟩,⟨rfl,rfl⟩,⟨by show 3<=(E7 22).length;decide,KB⟩,?_⟩)))
   .simp at f j;subst f j;simp at hk;simp only [FD,GS];have m:(e==2)=decide (e=2):=rfl;rw [m];exact hk
   .simp at f j;subst f;simp [j]at hk;exact hk
   .simp at f;rw [if_neg (by simp [f])]at hk;exact hk
  .rw [beq_eq_false_iff_ne]at d;rw [if_neg (λq=>d q.1)]at hk;exact⟨s,E7 op,⟨rfl,rfl⟩,⟨rfl,rfl⟩,⟨JZ,JZ⟩,hk⟩
 .exact hk.elim
def b6V:=aV 205 b9X b6U
theorem c2O:aS env b6V:=aE d6T (c2M)
def Rz(xs:Y14)(h:Heap)(K:KT):Prop:=match xs with
 | [.vslice none e0 n0 3 c0,.agg [.int .i64 25,.int .i64 im,.vslice none e1 n1 1 c1]]=> ∃(l:Y15)(ks:Y12),(n0=l.length/\c0=l.flatMap cN)/\(n1=ks.length/\c1=ks.map (IV.int .i64))/\(∃q:Int,ks=[q]/\(0<=q/\q<l.length)/\3<=(l.getD q.toNat default).ks.length/\(l.getD q.toNat default).ks.length<=33)/\K (.bool (decide (0<=im/\2*im+3<=(l.getD (ks.getD 0 0).toNat default).ks.length))) h
 |_=>False
theorem d2B(l:Y15)(g:Int)(ks:Y12)(e0 i:Nat)(h:Heap)(Q:KT):dF (aU b6V) env 206 cC bD bD [.vslice none e0 (l).length 3 ((l).flatMap cN),.agg [.int .i64 25,.int .i64 g,.vslice none i ks.length 1 (ks.map (IV.int .i64))]] h Q=(
 aF (aQ [IV.vslice none 0 l.length 3 (List.flatMap cN l),IV.agg [.int .i64 25,iI g,IV.vslice none 0 ks.length 1 (List.map (IV.int .i64) ks)]]) (O6 ks l g Q h)):=by kernel_rfl
theorem a9A: ∀xs h Q,Rz xs h Q->aM env 206 xs h Q:=by
 intro xs h Q hk;unfold Rz at hk;split at hk
 .rename_i e0 K A m r L D;obtain⟨l,ks,⟨rfl,rfl⟩,⟨rfl,rfl⟩,y,hk⟩:=hk;refine aL (c2O) (d2B l m ks e0 r h Q) ?_;delta jC jD O6 wW iI; (try dsimp -iota -proj only);obtain⟨q,rfl,G,h3,j⟩:=y;have g:q.toNat<l.length:=JZ;have u:(l.getD q.toNat default).ks.length=(l[q.toNat]).ks.length:=by rw [AH,AB g];rfl
  replace hk:=(show Q (.bool (decide (0<=m/\2*m+3<=((l.getD q.toNat default).ks.length:Int)))) h from hk);rw [u]at h3 j hk;refine aA (by simp only [aQ,aY,bL,bX,AN]) (aA KB (cO (l:=[q]) (i:=0) KB (aA (by simp;omega) (C8 g rfl ⟨⟨JZ,JZ⟩,?_⟩))));have z:IntKind.i64.wrap ((((l[q.toNat]).ks.length:Int)-1)/2-1)=(((l[q.toNat]).ks.length:Int)-1)/2-1:=AA _ JZ;rw [z];refine aB (λc=>?_) (λc=>?_)
  .rw [decide_eq_true_eq]at c;refine bN hk ?_
   congr 1
   rw [GC,decide_eq_true_eq,decide_eq_true_eq];omega
  .rw [decide_eq_false_iff_not]at c;refine bN hk ?_
   congr 1
   rw [decide_eq_false_iff_not];omega
 .exact hk.elim
def a6G:=aV 206 Rz b6V
theorem c2N:aS env a6G:=aE a9A (c2O)
def a3E(xs:Y14)(h:Heap)(K:KT):Prop:=match xs with
 | [.vslice none e0 n0 3 c0,.agg [.int .i64 op,.int .i64 im,.vslice none e1 n1 1 c1]]=> ∃(l:Y15)(ks:Y12),(n0=l.length/\c0=l.flatMap cN)/\(n1=ks.length/\c1=ks.map (IV.int .i64))/\(op=25-> ∃q:Int,ks=[q]/\(0<=q/\q<l.length)/\3<=(l.getD q.toNat default).ks.length/\(l.getD q.toNat default).ks.length<=33)/\K (.bool (Ak (eK l ⟨op,im,ks⟩) op im)) h
 |_=>False
theorem e3M: ∀xs h Q,a3E xs h Q->aM env 206 xs h Q:=by
 intro xs h Q hk;unfold a3E at hk;split at hk
 .rename_i e0 u i op r m y j;obtain⟨l,ks,⟨rfl,rfl⟩,⟨rfl,rfl⟩,g,hk⟩:=hk;unfold Ak at hk
  by_cases o25:op=25
  .subst o25;rw [if_pos rfl]at hk;exact a9A _ _ _ ⟨l,ks,⟨rfl,rfl⟩,⟨rfl,rfl⟩,g rfl,hk⟩
  .rw [if_neg o25]at hk;exact d6S _ _ _ ⟨l,ks,⟨rfl,rfl⟩,⟨rfl,rfl⟩,o25,hk⟩
 .exact hk.elim
def a1H:=aV 206 a3E a6G
theorem a8N:aS env a1H:=aE e3M (c2N)
def Sc(xs:Y14)(h:Heap)(K:KT):Prop:=match xs with
 | [.agg [.int .i64 31,.int .i64 im,.vslice none e1 n1 1 c1],.vslice none e2 n2 1 c2]=> ∃(ks s:Y12),(n1=ks.length/\c1=ks.map (IV.int .i64))/\(n2=s.length/\c2=s.map (IV.int .i64))/\s.length<=1000000/\K (.bool (vS s)) h
 |_=>False
theorem d2E(g:Int)(ks s:Y12)(i j:Nat)(h:Heap)(Q:KT):dF (aU a1H) env 205 cC bD bD [.agg [.int .i64 31,.int .i64 g,.vslice none i ks.length 1 (ks.map (IV.int .i64))],.vslice none j (s).length 1 ((s).map (IV.int .i64))] h Q=(
 aF (aQ [IV.agg [.int .i64 31,iI g,IV.vslice none 0 ks.length 1 (List.map (IV.int .i64) ks)],IV.vslice none 0 s.length 1 (List.map (IV.int .i64) s)]) (O3 s Q h)):=by kernel_rfl
theorem a9D: ∀xs h Q,Sc xs h Q->aM env 205 xs h Q:=by
 intro xs h Q hk;unfold Sc at hk;split at hk
 .rename_i A u G j y K l;obtain⟨ks,s,⟨rfl,rfl⟩,⟨rfl,rfl⟩,D,hk⟩:=hk;refine aL (a8N) (d2E A ks s u y h Q) ?_;delta oM B7 qB qC vN O3 iI; (try dsimp -iota -proj only);have i: ¬vS s=true->Q (.bool false) h:=λe=>by
   rw [IF]at e;rw [e]at hk;exact hk
  have ho:=λq:vS s=true=>sG q
  refine aA (by simp only [aQ,aY,bL,AN]) (aB (λj=>?_) (λc=>i (λq=>by rw [decide_eq_false_iff_not]at c;have:=ho q;omega)));rw [decide_eq_true_eq]at j;rw [CH JZ];refine aB (λl=>⟨⟨JZ,JZ⟩,?_⟩) (λc=>i (λq=>by rw [beq_eq_false_iff_ne]at c;have:=ho q;omega));rw [beq_iff_eq]at l;refine aB (λr=>?_) (λc=>i (λq=>by rw [decide_eq_false_iff_not]at c;have:=ho q;omega));rw [decide_eq_true_eq]at r;refine⟨s.length/2,⟨JZ,JZ⟩,JZ,λw g=>?_⟩;have m:w=lsL (s.length/2):=g;have z:w.length=s.length:=by rw [m,a7L JZ];omega
  refine⟨s,w,⟨rfl,rfl⟩,⟨rfl,rfl⟩,⟨JZ,JZ⟩,bN hk ?_⟩
  congr 1
  rw [AJ JZ,m,GC,decide_eq_true_eq];exact⟨λq=>(ho q).2.2.2,λq=>by unfold vS;simp only [AE,decide_eq_true_eq];exact⟨JZ,JZ,JZ,q⟩⟩
 .exact hk.elim
def Qi:=aV 205 Sc a1H
theorem Xr:aS env Qi:=aE a9D (a8N)
def Sa(xs:Y14)(h:Heap)(K:KT):Prop:=match xs with
 | [.agg [.int .i64 25,.int .i64 im,.vslice none e1 n1 1 c1],.vslice none e2 n2 1 c2]=> ∃(ks s:Y12),(n1=ks.length/\c1=ks.map (IV.int .i64))/\(n2=s.length/\c2=s.map (IV.int .i64))/\s.length<=1000000/\K (.bool (decide (s=[3]))) h
 |_=>False
theorem d2C(g:Int)(ks s:Y12)(i j:Nat)(h:Heap)(Q:KT):dF (aU Qi) env 205 cC bD bD [.agg [.int .i64 25,.int .i64 g,.vslice none i ks.length 1 (ks.map (IV.int .i64))],.vslice none j (s).length 1 ((s).map (IV.int .i64))] h Q=(
 aF (aQ [IV.agg [.int .i64 25,iI g,IV.vslice none 0 ks.length 1 (List.map (IV.int .i64) ks)],IV.vslice none 0 s.length 1 (List.map (IV.int .i64) s)]) (aK ((1:Int) !=(s.length:Int)) (Q (.bool false) h) (qB s Q h (λw=>((1:Nat)=w.length/\[iI 3]=List.map (IV.int .i64) w))))):=by kernel_rfl
theorem a9B: ∀xs h Q,Sa xs h Q->aM env 205 xs h Q:=by
 intro xs h Q hk;unfold Sa at hk;split at hk
 .rename_i l i y m j z r;obtain⟨ks,s,⟨rfl,rfl⟩,⟨rfl,rfl⟩,u,hk⟩:=hk;refine aL (Xr) (d2C l ks s i j h Q) ?_;delta B7 qB iI; (try dsimp -iota -proj only);refine aA (by simp only [aQ,aY,bL,AN]) (aB (λc=>?_) (λc=>?_))
  .rw [decide_eq_false (λe=>by rw [e]at c;simp at c)]at hk;exact hk
  .rw [bne_eq_false_iff_eq]at c;have g:s.length=1:=JZ;refine⟨s,[3],⟨rfl,rfl⟩,⟨rfl,rfl⟩,⟨by simp [g],JZ⟩,?_⟩;rw [g];exact hk
 .exact hk.elim
def Qh:=aV 205 Sa Qi
theorem Xq:aS env Qh:=aE a9B (Xr)
def f7B(s:Y12):Inv':=dL (Nat×Nat×Y12) (λx=>[(72,.v (.vslice none x.2.1 x.2.2.length 1 (x.2.2.map (IV.int .i64)))),(73,.v (.int .i64 (x.2.2.length:Int))),(74,.v (.int .i64 (x.1:Int)))]) (λ_=>[]) (λ_=>Heap.empty)
 (λx=>x.2.2=s.drop 1/\x.1<=x.2.2.length/\∀j,j<x.1->x.2.2[j]?=some 1) (λx=>x.2.2.length-x.1)
def Sb(xs:Y14)(h:Heap)(K:KT):Prop:=match xs with
 | [.agg [.int .i64 30,.int .i64 im,.vslice none e1 n1 1 c1],.vslice none e2 n2 1 c2]=> ∃(ks s:Y12),(n1=ks.length/\c1=ks.map (IV.int .i64))/\(n2=s.length/\c2=s.map (IV.int .i64))/\s.length<=1000000/\K (.bool (zX s)) h
 |_=>False
def a9L(s:Y12):=(s.length:Int).toNat-1
def Yn:=IV.int .i64
def O7(g:Nat×Nat×Y12):IV:=IV.vslice none g.2.1 g.2.2.length 1 (List.map Yn g.2.2)
def O4(s:Y12)(g:Nat×Nat×Y12):=g.2.2=List.drop 1 s/\g.1<=g.2.2.length/\∀(i:Nat),i<g.1->g.2.2[i]?=some (1:Int)
theorem d2D(j:Int)(ks s:Y12)(l m:Nat)(h:Heap)(Q:KT):dF (aU Qh) env 205 cC (mJ 11 (f7B s)) bD [.agg [.int .i64 30,.int .i64 j,.vslice none l ks.length 1 (ks.map (IV.int .i64))],.vslice none m (s).length 1 ((s).map (IV.int .i64))] h Q=(
 aF (aQ [IV.agg [.int .i64 30,iI j,IV.vslice none 0 ks.length 1 (List.map Yn ks)],IV.vslice none 0 s.length 1 (List.map Yn s)]) (O5 s Q h ((∃(i:Nat×Nat×Y12),kF (IV.vslice none ((0:Nat)- (s.length- (s.length:Int).toNat)*1) (a9L s) 1 (List.take ((a9L s)*1) (List.drop 1 (List.map Yn s)))) (O7 i) (iI ((a9L s):Int)) (iI (i.2.2.length:Int)) (iI 0) (iI (i.1:Int)) (Heap.mk PT.nil 0=Heap.mk PT.nil 0/\(O4 s i)/\True))/\∀(i:Nat×Nat×Y12)(b:FF),(O4 s i)->O8 Q h i.1 i.2.2 (λr=>aK (r !=1) (Q (IV.bool false) h) (∃(g:Nat×Nat×Y12),kF (O7 i) (O7 g) (iI (i.2.2.length:Int)) (iI (g.2.2.length:Int)) (iI (wW ((i.1:Int)+(1:Int)))) (iI (g.1:Int)) (Heap.mk PT.nil 0=Heap.mk PT.nil 0/\(O4 s g)/\g.2.2.length-g.1<i.2.2.length-i.1)))))):=by kernel_rfl
theorem a9C: ∀xs h Q,Sb xs h Q->aM env 205 xs h Q:=by
 intro xs h Q hk;unfold Sb at hk;split at hk
 .rename_i im D n1 c1 Y n2 A;obtain⟨ks,s,⟨rfl,rfl⟩,⟨rfl,rfl⟩,hl,hk⟩:=hk;refine aL (Xq) (d2D im ks s D Y h Q) ?_;delta Yn oM vN jC O5 kF a9L O7 O4 Ay O8 wW iI; (try dsimp -iota -proj only);have y:zX s=false->Q (.bool false) h:=λe=>by rw [e]at hk;exact hk
  have ht:zX s=true->Q (.bool true) h:=λe=>by rw [e]at hk;exact hk
  have R: ∀{p:Prop},(zX s=true->p)-> ¬p->zX s=false:=λf n=>by
   cases e:zX s
   .rfl
   .exact absurd (f e) n
  refine aA (by simp only [aQ,aY,bL,AN]) ?_
  cases s with
  |nil=>exact cV (λc=>y rfl) (λc=>absurd (show(([]:Y12).length:Int)<1 by simp) c)
  |cons a r=>
   have g:(a::r).length=r.length+1:=AS;have G:zX (a::r)=true->r.length<=6/\a=2/\(r.all λx=>decide (x=1))=true:=λe=>by
    simp only [zX,AE,decide_eq_true_eq]at e;exact e
   refine cV (λc=>absurd c (by rw [g];omega)) (λ_=>cV (λc=>y (R G (λq=>by have:=q.1;rw [g]at c;omega))) (λV=>aA (by rw [BD,decide_eq_true_eq,g];omega) (cW (n:=a) rfl (aB (λc=>y (R G (λq=>?_))) (λA=>aA (by simp only [BD,AE,decide_eq_true_eq,g];omega) ?_)))))
   .rw [bne_iff_ne]at c;exact c q.2.1
   rw [bne_eq_false_iff_eq]at A;have D:(((a::r).length:Nat):Int).toNat-1=r.length:=by rw [AK,g];rfl
   rw [D,BN,EF,DB,AJ (by rw [AX];omega)];refine⟨⟨(0,_,r),rfl,rfl,rfl,rfl,⟨rfl,AR _,λj m=>absurd m (DN _)⟩,True.intro⟩,?_⟩;rintro⟨i,e,u⟩ _ ⟨T,hi,m⟩;have T:u=r:=T;subst T;dsimp only at hi m⊢;refine cV (λX=>?_) (λX=>ht ?_)
   .have l:i<u.length:=JZ;refine aP JZ (cW (n:=u[i]) (by rw [AK,AM,BJ,AB l];rfl) (aB (λc=>y (R G (λq=>?_))) (λc=>⟨(i+1,e,u),rfl,rfl,(by(try dsimp only);rw [AA _ JZ];rfl),rfl,⟨rfl,l,λj K=>?_⟩,KE⟩)))
    .rw [bne_iff_ne]at c;exact c (by simpa using CF.1 q.2.2 _ (AG l))
    .rw [bne_eq_false_iff_eq]at c;rcases BK j i with z|z
     .exact m j z
     .have L:j=i:=by
       have:j<i+1:=K;omega
      subst L;rw [AB l,c]
   .have Z:u.length<=6:=by rw [g]at V;omega
    simp only [zX,AE,decide_eq_true_eq];refine⟨Z,A,CF.2 λx hx=>?_⟩;obtain⟨j,O,rfl⟩:=DK.1 hx;have:=m j JZ;rw [AB O,AC]at this;simpa using this
 .exact hk.elim
def a6H:=aV 205 Sb Qh
theorem c2P:aS env a6H:=aE a9C (Xq)
def a3F(xs:Y14)(h:Heap)(K:KT):Prop:=match xs with
 | [.agg [.int .i64 op,.int .i64 im,.vslice none e1 n1 1 c1],.vslice none e2 n2 1 c2]=> ∃(ks s:Y12),(n1=ks.length/\c1=ks.map (IV.int .i64))/\(n2=s.length/\c2=s.map (IV.int .i64))/\(True/\True/\s.length<=1000000)/\K (.bool (B0 op s)) h
 |_=>False
theorem e3N: ∀xs h Q,a3F xs h Q->aM env 205 xs h Q:=by
 intro xs h Q hk;unfold a3F at hk;split at hk
 .rename_i op r l u i m y j;obtain⟨ks,s,⟨rfl,rfl⟩,⟨rfl,rfl⟩,⟨_,_,g⟩,hk⟩:=hk;unfold B0 at hk
  by_cases h30:op=30
  .subst h30;rw [if_pos rfl]at hk;exact a9C _ _ _ ⟨ks,s,⟨rfl,rfl⟩,⟨rfl,rfl⟩,g,hk⟩
  rw [if_neg h30]at hk;unfold Ge at hk
  by_cases o31:op=31
  .subst o31;rw [if_pos rfl]at hk;exact a9D _ _ _ ⟨ks,s,⟨rfl,rfl⟩,⟨rfl,rfl⟩,g,hk⟩
  rw [if_neg o31]at hk
  by_cases o25:op=25
  .subst o25;rw [if_pos rfl]at hk;exact a9B _ _ _ ⟨ks,s,⟨rfl,rfl⟩,⟨rfl,rfl⟩,g,hk⟩
  rw [if_neg o25]at hk;exact d6T _ _ _ ⟨ks,s,⟨rfl,rfl⟩,⟨rfl,rfl⟩,⟨⟨o25,h30,o31⟩,g⟩,hk⟩
 .exact hk.elim
def a1I:=aV 205 a3F a6H
theorem a8O:aS env a1I:=aE e3N (c2P)
def f1H(l:Y15)(i e0 id:Nat)(g:Y12)(h:Heap):Inv':= .or
 (dL (Nat×Nd) (λx=>[(0,.v (.vslice none e0 (l).length 3 ((l).flatMap cN))),(1,.v (.int .i64 i)),(2,.v (.hslice id 0 g.length 1)),(7,.l 7 0),(16,.v (.vslice none 0 (x.2.ks).length 1 ((x.2.ks).map (IV.int .i64)))),(17,.v (.int .i64 x.2.ks.length)),(18,.v (.int .i64 x.1)),(8,.v .nilslice)]) (λx=>[(7,[.int .i64 x.2.op,.int .i64 x.2.im,.vslice none 0 (x.2.ks).length 1 ((x.2.ks).map (IV.int .i64))])]) (λ_=>h) (λx=>l[i]?=some x.2/\x.1=0) (λx=>x.2.ks.length-x.1))
 (dL (Nat×Nd×Y12×Nat×Heap) (λx=>[(0,.v (.vslice none e0 (l).length 3 ((l).flatMap cN))),(1,.v (.int .i64 i)),(2,.v (.hslice id 0 g.length 1)),(7,.l 7 0),(16,.v (.vslice none 0 (x.2.1.ks).length 1 ((x.2.1.ks).map (IV.int .i64)))),(17,.v (.int .i64 x.2.1.ks.length)),(18,.v (.int .i64 x.1)),(8,.v (.vslice (some x.2.2.2.1) x.2.2.1.length x.2.2.1.length 1 (x.2.2.1.map (IV.int .i64))))]) (λx=>[(7,[.int .i64 x.2.1.op,.int .i64 x.2.1.im,.vslice none 0 (x.2.1.ks).length 1 ((x.2.1.ks).map (IV.int .i64))])]) (λx=>x.2.2.2.2) (λx=>l[i]?=some x.2.1/\T4 l i x.1 x.2.2.1/\(0<x.1/\x.2.2.2.2.get x.2.2.2.1= .tip x.2.2.1.length/\x.2.2.2.1≠id)/\(x.2.2.2.2.get id=h.get id/\h.next<=x.2.2.2.2.next)) (λx=>x.2.1.ks.length-x.1))
def e0P(xs:Y14)(h:Heap)(K:KT):Prop:=match xs with
 | [.vslice none e0 n0 3 c0,.int .i64 q,.hslice id 0 n2 1]=> ∃(l:Y15)(i:Nat)(g:Y12),(n0=l.length/\c0=l.flatMap cN/\q=(i:Int)/\n2=g.length)/\SPH h id l i g/\∀h2:Heap,h2.get id=h.get id/\h.next<=h2.next->K (.int .i64 (cH (l.take i) (aD (l.take i)) (l.getD i default))) h2
 |_=>False
def Av:=iI 2
def yS:=IV.int .i64
def T0(g:Nat×Nd×Y12×Nat×Heap):=g.2.2.1
def Pg:=iI 0
def a9Z:=iI 1
def Jj(e0:Nat)(l:Y15)(i:Nat)(id:Nat)(G:Y12)(u:IV)(y:Nat)(z:Int)(A:IV)(D:Y14)(g:Nd)(j:Int)(m:IV)(r:Prop):Prop:=kF (IV.vslice none e0 l.length 3 (List.flatMap cN l)) (IV.vslice none e0 l.length 3 (List.flatMap cN l)) (iI (i:Int)) (iI (i:Int)) (IV.hslice id 0 G.length 1) (IV.hslice id 0 G.length 1) (some (TV.l 7 0)=some (TV.l 7 0)/\some (TV.v u)=some (TV.v (gW (Nd.ks g)))/\tI (↑y
 :Int)=tI (↑((Nd.ks g).length):Int)/\tI z=tI j/\some (TV.v A)=some (TV.v m)/\some D=some [iI (Nd.op g),iI (Nd.im g),IV.vslice none 0 ((Nd.ks g).length) 1 (List.map yS (Nd.ks g))]/\r)
def oC(g:Nat×Nd×Y12×Nat×Heap):Nat:=g.2.2.2.1
def pB(g:Nat×Nd×Y12×Nat×Heap):Nat:=g.2.2.1.length
def Jg(e0:Nat)(l:Y15)(i:Nat)(id:Nat)(G:Y12)(m:IV)(r:Nat)(u:Int)(y:IV)(K:Int)(L:Int)(z:Y14)(A:Nat×Nd->Prop)(D:Nat×Nd×Y12×Nat×Heap->Prop):Prop:=(∃(j:Nat×Nd),Jj e0 l i id G m r u y z j.2 (j.1:Int) IV.nilslice (A j)) \/ ∃(g:Nat×Nd×Y12×Nat×Heap),Jj e0 l i id G m r u y z g.2.1 (g.1:Int) (IV.vslice (some (oC g)) (pB g) (pB g) 1 (List.map
 yS g.2.2.1)) (D g)
def gX(g:Nat×Nd×Y12×Nat×Heap):Heap:=g.2.2.2.2
def O2(l:Y15)(i:Nat)(id:Nat)(h:Heap)(g:Nat×Nd×Y12×Nat×Heap):=l[i]?=some g.2.1/\T4 l i g.1 g.2.2.1/\(0<g.1/\Heap.get (gX g) (oC g)=IObj.tip (pB g)/\g.2.2.2.1≠id)/\Heap.get (gX g) id=h.get id/\Heap.next h<=Heap.next (gX g)
def Yx(g:Nd)(Q:KT)(i:Heap)(j:Int)(l:Int)(m:Int)(r:Int)(u:Prop)(y:Int)(z:Prop)(A:Int)(D:Prop)(G:Prop):Prop:=aK (Nd.op g==j) (Q (.int .i64 l) i) (aK (Nd.op g==m) (Q Av i) (aK (Nd.op g==r) u (aK (Nd.op g==y) z (aK (Nd.op g==A) D G))))
def Jh(Q:KT)(i:Nat)(X:Y12)(id:Nat)(l:Y15)(z:Int)(g:Nd)(j:Heap)(R:Int->Prop)(T:Y12->Prop)(V:Prop):Prop:=aK (decide (z< (↑((Nd.ks g).length):Int))) (aF (decide (0<=z) &&decide (z< (↑((Nd.ks g).length):Int))) (aN .i64 (List.map yS (Nd.ks g)) (z.toNat*1) λm=>aK (decide (m<0)) (Q Pg j) (aK (decide (m>=(i:Int))) (Q Pg j) (aF
 (decide (0<=m) &&decide (m< (X.length:Int))) (aT j id λG=>aN .i64 G ((0:Nat)+m.toNat*1) λK=>aK (K==0) (Q Pg j) (aF (decide (0<=m) &&decide (m< (X.length:Int))) (aT j id λL=>aN .i64 L ((0:Nat)+m.toNat
 *1) λO=>R O))))))) (∃(D A:Y12),((Nd.ks g).length=D.length/\List.map yS (Nd.ks g)=List.map yS D)/\(T A)/\(True/\True/\A.length<=1000000)/\aK (!B0 (Nd.op g) A) (Q Pg j) (∃(r:Y15)(y:Y12),(l.length
 =r.length/\List.flatMap cN l=List.flatMap cN r)/\((Nd.ks g).length=y.length/\List.map yS (Nd.ks g)=List.map yS y)/\(Nd.op g=25-> ∃(u:Int),y=[u]/\(0<=u/\u< (r.length:Int))/\3<=List.length (Nd.ks (List.getD r u.toNat default))
 /\List.length (Nd.ks (List.getD r u.toNat default))<=33)/\aK (!Ak (eK r (Nd.mk (Nd.op g) (Nd.im g) y)) (Nd.op g) (Nd.im g)) (Q Pg j) (Yx g Q j 31 3 26 27 (Q Av j) 28 (Q Av j) 29 (Q Av j)
 (aK (Nd.op g==30) (Q Av j) (aK (Nd.op g==22) V (aK (Nd.op g==3) (aK (Int.tmod (Nd.im g) 16==0) (Q Av j) (Q a9Z j)) (aK (Nd.op g==25) (aK (Nd.im g==0) (Q Av j) (Q a9Z j)) (Q a9Z j))))))))
def Jm(e0:Nat)(l:Y15)(i:Nat)(id:Nat)(G:Y12)(g:Nd)(u:Int)(y:Nat)(j:Nat)(z:Y14)(A:Nat×Nd->Prop)(D:Nat×Nd×Y12×Nat×Heap->Prop):Prop:=Jg e0 l i id G (gW (Nd.ks g)) ((Nd.ks g).length) (wW (u+1)) (IV.vslice (some y) j j 1 z) (Nd.op g) (Nd.im g) [iI (Nd.op g),iI (Nd.im g),IV.vslice none 0 ((Nd.ks g).length) 1 (List.map yS (Nd.ks g))] (λm=>A
 m) (λr=>D r)
theorem f8O(l:Y15)(i:Nat)(e0 id:Nat)(u:Y12)(h:Heap)(Q:KT):dF (aU a1I) env 154 cC (mJ 5 (f1H l i e0 id u h)) bD [.vslice none e0 (l).length 3 ((l).flatMap cN),.int .i64 i,.hslice id 0 u.length 1] h Q=(
 aF (decide (0<=(i:Int)) &&decide ((i:Int)< (l.length:Int))) (aN .i64 (List.flatMap cN l) ((i:Int).toNat*3) λR=>aN .i64 (List.flatMap cN l) ((i:Int).toNat*3+1) λT=>bM 1 (List.flatMap cN l) ((i:Int).toNat*3+1+1) λO L y K=>(Jg e0 l i id u (IV.vslice O L y 1 K) y 0 IV.nilslice R T [iI R,iI T,IV.vslice O L y 1 K] (λr=>h=h/\(l[i]?=some r.2/\r.1=0)/\True) (λg=>h=g.2.2.2.2/\(O2 l i id h g)/\True))/\(∀(r:Nat×Nd)(b:FF),l[i]?=some r.2/\r.1=0->Jh Q i u id l (r.1:Int) r.2 h (λA=>Jm e0 l i id u r.2 (r.1:Int) (h.next) 1 [iI A] (λj=>h.push (IObj.tip 1)=h/\(l[i]?=some j.2/\j.1=0)/\List.length (Nd.ks j.2)-j.1< (Nd.ks r.2).length-r.1) (λm=>h.push (IObj.tip 1)=m.2.2.2.2/\(O2 l i id h m)/\List.length (Nd.ks ((m.2).1))-m.1< (Nd.ks r.2).length-r.1)) (λs=>((0:Nat)=s.length/\[]=List.map yS s)) False)/\∀(g:Nat×Nd×Y12×Nat×Heap)(b:FF),l[i]?=some g.2.1/\T4 l i g.1 (T0 g)/\((0:Nat)<g.1/\Heap.get (gX g) (oC g)=IObj.tip (pB g)/\g.2.2.2.1≠id)/\Heap.get (gX g) id=h.get id/\Heap.next h<=Heap.next (gX g)->Jh Q i u id l (g.1:Int) g.2.1 (gX g) (λD=>lL (gX g) (oC g) λz=>aF (Nat.beq z (pB g) &&Nat.ble (((T0 g).length+1)*8) 140737488355328) (Jm e0 l i id u g.2.1 (g.1:Int) (oC g) ((T0 g).length+(1:Nat)) (List.map yS (T0 g)++ [iI D]) (λj=>(gX g).set (oC g) (IObj.tip ((T0 g).length+1))=h/\(l[i]?=some j.2/\j.1=0)/\List.length (Nd.ks j.2)-j.1< (Nd.ks g.2.1).length-g.1) (λm=>(gX g).set (oC g) (IObj.tip ((T0 g).length+1))=m.2.2.2.2/\(O2 l i id h m)/\List.length (Nd.ks m.2.1)-m.1< (Nd.ks g.2.1).length-g.1))) (λs=>qC (T0 g) s) (jC 1 (T0 g) 1 (λG=>Q (.int .i64 G) (gX g))))):=by kernel_rfl
theorem f6Q: ∀xs h Q,e0P xs h Q->aM env 154 xs h Q:=by
 intro xs h Q hk;unfold e0P at hk;split at hk
 .rename_i e0 n0 c0 q id n2;obtain⟨l,i,k0,⟨rfl,rfl,rfl,rfl⟩,hb,hk⟩:=hk;refine aL (a8O) (f8O l i e0 id k0 h Q) ?_;delta kF Ay gW yS Jj oC pB Jg gX O2 Pg Av Yx a9Z Jh Jm T0 B7 qC jC tI wW iI; (try dsimp -iota -proj only);have tn: ∀x:Nat,(x:Int).toNat=x:=AK
  obtain⟨⟨K,V,b4⟩,hg,a3,b2,b0⟩:=hb;have a6:=(V _ (AG K)).2;have b3:=(V _ (AG K)).1;have eD:l.getD i default=l[i]:=by rw [AH,AB K];rfl
  rw [eD]at hk;have fin: ∀(v:Int)(h2:Heap),v=cH (l.take i) (aD (l.take i)) l[i]->h2.get id=h.get id/\h.next<=h2.next->Q (.int .i64 v) h2:=by
   rintro _ h2 rfl e;exact hk h2 e
  have b5:(aD (l.take i)).length=i:=by rw [bA,AW];omega
  have a4: ∀q,(hq:q<i)-> ∃h2:q<k0.length,∃h3:q< (aD (l.take i)).length,k0[q]=(aD (l.take i))[q]:=λq hq=>by
   refine⟨JZ,JZ,?_⟩;have e:(k0.take i)[q]?=(aD (l.take i))[q]?:=by rw [b0]
   rw [DF hq,AB JZ,AB JZ,AC]at e;exact e
  have X:=λ(k:Y12)(h:T4 l i l[i].ks.length k)=>Go.M10.T4.finH h K (AF _)
  refine aA (by simp;omega) (uM K (by rw [tn]) ⟨.inl ⟨(0,l[i]),KD,KD,KD,KD,KD,KD,KD,KD,KD,KD,⟨AB K,rfl⟩,trivial⟩,?_,?_⟩)
  .rintro⟨j,n⟩ _ ⟨O,hj⟩;dsimp only at O hj⊢;obtain rfl:l[i]=n:=by rw [AB K]at O;exact AV O
   subst hj;refine aB (λc=>?_) (λc=>?_)
   .rw [decide_eq_true_eq]at c;have A:0<l[i].ks.length:=JZ;have hm:l[i].ks[0] ∈l[i].ks:=AG A;refine aA (by simp;omega) (fD A rfl (aB (λy=>?_) (λy=>aB (λY=>?_) (λY=>?_))))
    .rw [decide_eq_true_eq]at y;exact fin _ _ (bY hm (mR y)).symm ⟨rfl,AF _⟩
    .rw [decide_eq_true_eq]at Y;exact fin _ _ (bY hm (mQ JZ)).symm ⟨rfl,AF _⟩
    rw [decide_eq_false_iff_not]at y Y;obtain⟨q1,q2,q3⟩:=a4 (l[i].ks[0]).toNat JZ;refine aA (by simp;omega) (aC hg (fD q1 JZ (aB (λL=>?_) (λL=>?_))))
    .rw [beq_iff_eq,q3]at L;exact fin _ _ (bY hm (mS q2 L)).symm ⟨rfl,AF _⟩
    rw [beq_eq_false_iff_ne,q3]at L;obtain⟨k1,k2⟩:=lC JZ q2 L;have hs:=(T4.zero K).step K A k1;rw [k2]at hs;refine aA (by simp;omega) (aC hg (fD q1 JZ (.inr ⟨(1,l[i],[(aD (l.take i))[(l[i].ks[0]).toNat]],h.next,h.push (.tip 1)),KD,KD,KD,KD,KD,KD,KD,(by rw [q3];rfl),KD,KD,⟨O,hs,⟨Nat.one_pos,aW,DL a3⟩,aO a3,DM _⟩,KE⟩)))
   .rw [decide_eq_false_iff_not]at c;have hz:l[i].ks.length=0:=JZ;obtain⟨T,t2⟩:=X [] (by rw [hz];exact T4.zero K);refine⟨l[i].ks,[],⟨rfl,rfl⟩,⟨rfl,rfl⟩,⟨a6,trivial,KB⟩,?_⟩;refine aB (λu=>fin _ _ ?_ ⟨rfl,AF _⟩) (λu=>⟨l,l[i].ks,⟨rfl,rfl⟩,⟨rfl,rfl⟩,t2.2 (by simpa using u),aB (λy=>fin _ _ ?_ ⟨rfl,AF _⟩) (λy=>?_)⟩)
    .rw [BS]at u;rw [T,if_neg (λe=>by rw [u]at e;exact FC e.1)]
    .rw [BS]at y;rw [T,if_neg (λe=>by rw [y]at e;exact FC e.2)]
    rw [CA]at u y;rw [if_pos ⟨u,y⟩]at T;have m: ∀{a o:Int},(a==o)=false-> ¬a=o:=λc=>by simpa using c
    have G: ∀v:Int,b2W l[i].op l[i].im []=v->Q (.int .i64 v) h:=λv e=>fin v _ (by rw [T,e]) ⟨rfl,AF _⟩
    by_cases o30:l[i].op=30
    .simp only [o30];exact aB (λd=>absurd d KA) (λ_=>aB (λd=>absurd d KA) (λ_=>aB (λd=>absurd d KA) (λ_=>aB (λd=>absurd d KA) (λ_=>aB (λd=>absurd d KA) (λ_=>aB (λ_=>G 2 (if_pos o30)) (λd=>absurd d KA))))))
    have D: ∀v:Int,Bg l[i].op l[i].im []=v->Q (.int .i64 v) h:=λv e=>G v ((a9H o30).trans e)
    have r:l[i].op≠31->l[i].op≠25-> ∀v:Int,svo l[i].op l[i].im []=v->Q (.int .i64 v) h:=λh1 h2 v e=>D v (by unfold Bg;rw [if_neg h1,if_neg h2];exact e)
    refine aB (λd=>D 3 (if_pos (beq_iff_eq.1 d))) (λZ=>?_)
    by_cases o25:l[i].op=25
    .simp only [o25];refine aB (λd=>absurd d KA) (λ_=>aB (λd=>absurd d KA) (λ_=>aB (λd=>absurd d KA) (λ_=>aB (λd=>absurd d KA) (λ_=>aB (λd=>absurd d KA) (λ_=>aB (λd=>absurd d KA) (λ_=>aB (λd=>absurd d KA) (λ_=>aB (λ_=>?_) (λd=>absurd d KA))))))));refine aB (λe=>D 2 ?_) (λe=>D 1 ?_)
     .unfold Bg;rw [o25,if_neg KA,if_pos rfl,if_pos (beq_iff_eq.1 e)]
     .unfold Bg;rw [o25,if_neg KA,if_pos rfl,if_neg (m e)]
    replace r:=r (m Z) o25;unfold svo at r;refine aB (λd=>r _ (if_pos (.inl (beq_iff_eq.1 d)))) (λd2=>aB (λd=>r _ (if_pos (.inr (.inl (beq_iff_eq.1 d))))) (λd3=>aB (λd=>r _ (if_pos (.inr (.inr (.inl (beq_iff_eq.1 d)))))) (λd4=>aB (λd=>r _ (if_pos (.inr (.inr (.inr (beq_iff_eq.1 d)))))) (λd5=>aB (λd=>absurd (beq_iff_eq.1 d) o30) (λd6=>?_)))));have nn: ¬ (l[i].op=26\/l[i].op=27\/l[i].op=28\/l[i].op=29):=by
     have:=m d2;have:=m d3;have:=m d4;have:=m d5;omega
    rw [if_neg nn]at r;refine aB (λd=>?_) (λd7=>aB (λd=>?_) (λd8=>aB (λd=>absurd (beq_iff_eq.1 d) o25) (λ_=>r _ (by rw [if_neg (m d7),if_neg (m d8)]))))
    .rw [beq_iff_eq]at d;have h3:E0 22 []=false:=KA;unfold B0 Ge at u;rw [d,if_neg KA,if_neg KA,if_neg KA,h3]at u
     cases u
    .rw [if_neg (m d7),if_pos (beq_iff_eq.1 d)]at r;refine aB (λe=>r _ (if_pos (beq_iff_eq.1 e))) (λe=>r _ (if_neg (m e)))
  .rintro⟨j,n,k,a7,g⟩ _ ⟨O,R,⟨a9,a2,a0⟩,z⟩;dsimp only at O R a9 a2 a0 z⊢;obtain rfl:l[i]=n:=by rw [AB K]at O;exact AV O
   have b1:k.length=j/\j<=l[i].ks.length:=by
    obtain⟨n,h1,h2,_⟩:=R;rw [O]at h1
    cases h1
    exact⟨h2.2,h2.1⟩
   have a1:g.get id= .cells (k0.map (IV.int .i64)):=z.1.trans hg;refine aB (λc=>?_) (λc=>?_)
   .rw [decide_eq_true_eq]at c;have A:j<l[i].ks.length:=JZ;have hm:l[i].ks[j] ∈l[i].ks:=AG A;refine aA (by simp;omega) (fD A (by rw [AM,tn]) (aB (λy=>?_) (λy=>aB (λY=>?_) (λY=>?_))))
    .rw [decide_eq_true_eq]at y;exact fin _ _ (bY hm (mR y)).symm z
    .rw [decide_eq_true_eq]at Y;exact fin _ _ (bY hm (mQ JZ)).symm z
    rw [decide_eq_false_iff_not]at y Y;obtain⟨q1,q2,q3⟩:=a4 (l[i].ks[j]).toNat JZ;refine aA (by simp;omega) (aC a1 (fD q1 JZ (aB (λL=>?_) (λL=>?_))))
    .rw [beq_iff_eq,q3]at L;exact fin _ _ (bY hm (mS q2 L)).symm z
    rw [beq_eq_false_iff_ne,q3]at L;obtain⟨k1,k2⟩:=lC JZ q2 L;have hs:=R.step K A k1;rw [k2]at hs;refine aA (by simp;omega) (aC a1 (fD q1 JZ (bB a2 (aA (by simp only [AE,bT,BB,true_and];omega) (.inr ⟨(j+1,l[i],k++ [(aD (l.take i))[(l[i].ks[j]).toNat]],a7,g.set a7 (.tip (k.length+1))),KD,KD,KD,KD,KD,KD,?_,?_,KD,?_,⟨O,hs,⟨CO _,by rw [aH];simp,a0⟩,by rw [aG a0.symm];exact z.1,z.2⟩,KE⟩)))))
    .rw [AA _ JZ];rfl
    .rw [q3];simp
    .rfl
   .rw [decide_eq_false_iff_not]at c;obtain rfl:j=l[i].ks.length:=JZ;obtain⟨T,t2⟩:=X k R;refine⟨l[i].ks,k,⟨rfl,rfl⟩,⟨rfl,rfl⟩,⟨a6,trivial,JZ⟩,?_⟩;refine aB (λu=>fin _ _ ?_ z) (λu=>⟨l,l[i].ks,⟨rfl,rfl⟩,⟨rfl,rfl⟩,t2.2 (by simpa using u),aB (λy=>fin _ _ ?_ z) (λy=>?_)⟩)
    .rw [BS]at u;rw [T,if_neg (λe=>by rw [u]at e;exact FC e.1)]
    .rw [BS]at y;rw [T,if_neg (λe=>by rw [y]at e;exact FC e.2)]
    rw [CA]at u y;rw [if_pos ⟨u,y⟩]at T;have m: ∀{a o:Int},(a==o)=false-> ¬a=o:=λc=>by simpa using c
    have G: ∀v:Int,b2W l[i].op l[i].im k=v->Q (.int .i64 v) g:=λv e=>fin v _ (by rw [T,e]) z
    by_cases o30:l[i].op=30
    .simp only [o30];exact aB (λd=>absurd d KA) (λ_=>aB (λd=>absurd d KA) (λ_=>aB (λd=>absurd d KA) (λ_=>aB (λd=>absurd d KA) (λ_=>aB (λd=>absurd d KA) (λ_=>aB (λ_=>G 2 (if_pos o30)) (λd=>absurd d KA))))))
    have D: ∀v:Int,Bg l[i].op l[i].im k=v->Q (.int .i64 v) g:=λv e=>G v ((a9H o30).trans e)
    have r:l[i].op≠31->l[i].op≠25-> ∀v:Int,svo l[i].op l[i].im k=v->Q (.int .i64 v) g:=λh1 h2 v e=>D v (by unfold Bg;rw [if_neg h1,if_neg h2];exact e)
    refine aB (λd=>D 3 (if_pos (beq_iff_eq.1 d))) (λZ=>?_)
    by_cases o25:l[i].op=25
    .simp only [o25];refine aB (λd=>absurd d KA) (λ_=>aB (λd=>absurd d KA) (λ_=>aB (λd=>absurd d KA) (λ_=>aB (λd=>absurd d KA) (λ_=>aB (λd=>absurd d KA) (λ_=>aB (λd=>absurd d KA) (λ_=>aB (λd=>absurd d KA) (λ_=>aB (λ_=>?_) (λd=>absurd d KA))))))));refine aB (λe=>D 2 ?_) (λe=>D 1 ?_)
     .unfold Bg;rw [o25,if_neg KA,if_pos rfl,if_pos (beq_iff_eq.1 e)]
     .unfold Bg;rw [o25,if_neg KA,if_pos rfl,if_neg (m e)]
    replace r:=r (m Z) o25;unfold svo at r;refine aB (λd=>r _ (if_pos (.inl (beq_iff_eq.1 d)))) (λd2=>aB (λd=>r _ (if_pos (.inr (.inl (beq_iff_eq.1 d))))) (λd3=>aB (λd=>r _ (if_pos (.inr (.inr (.inl (beq_iff_eq.1 d)))))) (λd4=>aB (λd=>r _ (if_pos (.inr (.inr (.inr (beq_iff_eq.1 d)))))) (λd5=>aB (λd=>absurd (beq_iff_eq.1 d) o30) (λd6=>?_)))));have nn: ¬ (l[i].op=26\/l[i].op=27\/l[i].op=28\/l[i].op=29):=by
     have:=m d2;have:=m d3;have:=m d4;have:=m d5;omega
    rw [if_neg nn]at r;refine aB (λd=>?_) (λd7=>aB (λd=>?_) (λd8=>aB (λd=>absurd (beq_iff_eq.1 d) o25) (λ_=>r _ (by rw [if_neg (m d7),if_neg (m d8)]))))
    .rw [beq_iff_eq]at d;rw [if_pos d]at r;have a5:(k.length:Int)=ar l[i].op:=by
      unfold B0 Ge at u;rw [d,if_neg KA,if_neg KA,if_neg KA]at u;unfold E0 at u;rw [<-d]at u;simp only [AE,decide_eq_true_eq]at u;exact u.2.1
     have a8:ar 22=3:=KA;rw [d,a8]at a5;have A:1<k.length:=JZ;refine aA (by simp;omega) (fD A JZ (r _ ?_));rw [AH,AB A];rfl
    .rw [if_neg (m d7),if_pos (beq_iff_eq.1 d)]at r;refine aB (λe=>r _ (if_pos (beq_iff_eq.1 e))) (λe=>r _ (if_neg (m e)))
 .exact hk.elim
def d8T:=aV 154 e0P a1I
theorem d6F:aS env d8T:=aE f6Q (a8O)
def e8D(l:Y15)(g:Nat):Inv':=dL (Nat×Nat×Heap×Y12) (λx=>[(0,.v (.vslice none g (l).length 3 ((l).flatMap cN))),(3,.v (.hslice x.2.1 0 l.length 1)),(9,.v (.int .i64 l.length)),(10,.v (.int .i64 x.1))]) (λ_=>[]) (λx=>x.2.2.1)
 (λx=>x.1<=l.length/\x.2.2.1.get x.2.1= .cells (x.2.2.2.map (IV.int .i64))/\x.2.2.2.length=l.length/\x.2.1<x.2.2.1.next/\x.2.2.2.take x.1=aD (l.take x.1)) (λx=>l.length-x.1)
def Rg(xs:Y14)(h:Heap)(K:KT):Prop:=match xs with
 | [.vslice none e1 n1 3 c1]=> ∃l:Y15,(n1=l.length/\c1=l.flatMap cN)/\((∀x∈l,x.ks.length<=1000000/\True)/\l.length<=1000000)/\∀(h2:Heap)(id:Nat),h2.get id= .cells ((aD l).map (IV.int .i64))->K (.hslice id 0 l.length 1) h2
 |_=>False
def Lq(g:Nat×Nat×Heap×Y12):=g.2.2
def yW(l:Y15):=l.length
def Uc(g:Nat×Nat×Heap×Y12):=g.2.1
def Jn(u:Nat)(l:Y15)(i:Nat)(j:Nat)(g:Nat×Nat×Heap×Y12)(m:Int)(r:Prop):Prop:=kF (IV.vslice none u (yW l) 3 (List.flatMap cN l)) (IV.vslice none u (yW l) 3 (List.flatMap cN l)) (IV.hslice i 0 j 1) (IV.hslice g.2.1 0 (yW l) 1) (iI ((yW l):Int)) (iI ((yW l):Int)) (tI m=tI (g.1:Int)/\r)
def Jk(l:Y15)(g:Nat×Nat×Heap×Y12):Prop:=g.1<=l.length/\Heap.get g.2.2.1 g.2.1=IObj.cells (List.map (IV.int .i64) g.2.2.2)/\g.2.2.2.length=l.length/\g.2.1<g.2.2.1.next/\List.take g.1 g.2.2.2=aD (List.take g.1 l)
theorem d1O(l:Y15)(r:Nat)(h:Heap)(Q:KT):dF (aU d8T) env 83 cC (mJ 4 (e8D l r)) bD [.vslice none r (l).length 3 ((l).flatMap cN)] h Q=(
 aF (decide (0<=((yW l):Int)) && (decide (((yW l):Int)<=((yW l):Int)) && (decide (((yW l):Int)<=9223372036854775807) &&decide ((8:Int)*((yW l):Int)<=140737488355328)))) ((∃(g:Nat×Nat×Heap×Y12),Jn r l (h.next) (((yW l):Int).toNat) g 0 (h.push (IObj.cells (fY (((yW l):Int).toNat) [iI 0]))=(Lq g).1/\(Jk l g)/\True))/\∀(g:Nat×Nat×Heap×Y12)(b:FF),g.1<=l.length/\Heap.get ((Lq g).1) (Uc g)=IObj.cells (List.map (IV.int .i64) ((Lq g).2))/\List.length ((Lq g).2)=l.length/\g.2.1< ((Lq g).1).next/\List.take g.1 ((Lq g).2)=aD (List.take g.1 l)->aK (decide ((g.1:Int)< ((yW l):Int))) (∃(m:Y15)(i:Nat)(u:Y12),(l.length=m.length/\List.flatMap cN l=List.flatMap cN m/\(g.1:Int)=(i:Int)/\l.length=u.length)/\SPH ((Lq g).1) (Uc g) m i u/\∀(h2:Heap),h2.get (Uc g)=((Lq g).1).get (Uc g)/\Heap.next ((Lq g).1)<=Heap.next h2->aF (decide (0<=(g.1:Int)) &&decide ((g.1:Int)< ((yW l):Int))) (aT h2 (Uc g) λr0=>aF (Nat.ble ((0:Nat)+(g.1:Int).toNat*1+1) r0.length) (∃(j:Nat×Nat×Heap×Y12),Jn r l (Uc g) (yW l) j (wW ((g.1:Int)+1)) (h2.set (Uc g) (IObj.cells (List.take ((0:Nat)+(g.1:Int).toNat*1) r0++ [iI (cH (List.take i m) (aD (List.take i m)) (List.getD m i default))]++List.drop ((0:Nat)+(g.1:Int).toNat*1+1) r0))=j.2.2.1/\(Jk l j)/\l.length-j.1<l.length-g.1)))) (Q (.hslice (Uc g) 0 (yW l) 1) ((Lq g).1)))):=by kernel_rfl
theorem d0H: ∀xs h Q,Rg xs h Q->aM env 83 xs h Q:=by
 intro xs h Q hk;unfold Rg at hk;split at hk
 .rename_i K Z Y;obtain⟨l,⟨rfl,rfl⟩,R,hk⟩:=hk;refine aL (d6F) (d1O l K h Q) ?_;delta yW kF Jn Lq Jk Uc tI wW iI;have G: ∀x:Nat,(x:Int).toNat=x:=AK
  obtain⟨z,D⟩:=R;refine aA (by simp;omega) ⟨⟨(0,h.next,h.push (.cells (fY (l.length:Int).toNat [.int .i64 0])),List.replicate l.length 0),KD,(by rw [G]),KD,KD,KD,⟨AR _,(by rw [aW,G,Ot]),KB,AQ _,rfl⟩,trivial⟩,?_⟩;rintro⟨i,id,g,m⟩ _ ⟨T,A,y,u,j⟩;dsimp only at T A y u j⊢;refine aB (λc=>?_) (λc=>?_)
  .rw [decide_eq_true_eq]at c;have r:i<l.length:=JZ;refine⟨l,i,m,⟨rfl,rfl,rfl,y.symm⟩,⟨⟨r,z,D⟩,A,u,y,j⟩,λh2 ⟨L,X⟩=>aA (by simp;omega) (aC (L.trans A) (aA (by rw [BB];simp;omega) ?_))⟩;have O:l.getD i default=l[i]:=by rw [AH,AB r];rfl
   rw [O];have V:(m.map (IV.int .i64)).take (0+(i:Int).toNat*1)++ [.int .i64 (cH (l.take i) (aD (l.take i)) l[i])]++(m.map (IV.int .i64)).drop (0+(i:Int).toNat*1+1)=(m.take i++ [cH (l.take i) (aD (l.take i)) l[i]]++m.drop (i+1)).map (IV.int .i64):=by
    rw [G,AY,AM];simp
   have h1:(m.take i).length=i:=by rw [AW];omega
   refine⟨(i+1,id,h2.set id (.cells ((m.take i++ [cH (l.take i) (aD (l.take i)) l[i]]++m.drop (i+1)).map (IV.int .i64))),m.take i++ [cH (l.take i) (aD (l.take i)) l[i]]++m.drop (i+1)),KD,KD,KD,?_,?_,⟨r,aH,?_,AU u X,?_⟩,KE⟩
   .rw [AA _ JZ];rfl
   .rw [V]
   .simp;omega
   .rw [bR r,<-j];dsimp only;rw [CQ (by simp;omega),AJ (by simp;omega)]
  .rw [decide_eq_false_iff_not]at c;obtain rfl:i=l.length:=JZ;rw [AJ JZ,EC]at j;subst j;exact hk g id A
 .exact hk.elim
def Pn:=aV 83 Rg d8T
theorem Wz:aS env Pn:=aE d0H (d6F)
def a2C(xs:Y14)(h:Heap)(K:KT):Prop:=match xs with
 | [.vslice none e1 n1 3 c1,.int .i64 i]=> ∃l:Y15,(n1=l.length/\c1=l.flatMap cN)/\((∀x∈l,x.ks.length<=1000000/\True)/\l.length<=1000000/\0<=i/\i<l.length)/\K (.int .i64 ((aD l).getD i.toNat 0)) h
 |_=>False
theorem e4D(l:Y15)(i:Int)(m:Nat)(h:Heap)(Q:KT):dF (aU Pn) env 41 cC bD bD [.vslice none m (l).length 3 ((l).flatMap cN),.int .i64 i] h Q=(
 aF (aQ [IV.vslice none 0 l.length 3 (List.flatMap cN l),iI i]) (aK (decide (i<0)) (Q (.int .i64 0) h) (aK (decide (i>=(l.length:Int))) (Q (.int .i64 0) h) (aF (true&& (decide (0<=wW (i+1)) &&decide (wW (i+1)<=(l.length:Int)))) (∃(g:Y15),((wW (i+1)).toNat-0=g.length/\List.take (((wW (i+1)).toNat-0)*(3:Nat)) (List.drop 0 (List.flatMap cN l))=List.flatMap cN g)/\((∀(j:Nd),j∈g->List.length (Nd.ks j)<=1000000/\True)/\g.length<=1000000)/\∀(h2:Heap)(id:Nat),h2.get id=IObj.cells (List.map (IV.int .i64) (aD g))->aF (decide (0<=i) &&decide (i< (g.length:Int))) (aT h2 id λr0=>aN .i64 r0 ((0:Nat)+i.toNat*1) λr=>Q (.int .i64 r) h)))))):=by kernel_rfl
theorem e2M: ∀xs h Q,a2C xs h Q->aM env 41 xs h Q:=by
 intro xs h Q hk;unfold a2C at hk;split at hk
 .rename_i r R O i;obtain⟨l,⟨rfl,rfl⟩,u,hk⟩:=hk;refine aL (Wz) (e4D l i r h Q) ?_;delta wW iI;have T: ∀x:Nat,(x:Int).toNat=x:=AK
  obtain⟨g,y,A,D⟩:=u;have K:IntKind.i64.wrap (i+1)=i+1:=AA _ JZ;rw [K];have G:i.toNat<l.length:=JZ;have m:(i+1).toNat-0=i.toNat+1:=JZ;refine aA (by simp only [aQ,aY,bX,AN]) (aB (λc=>absurd (of_decide_eq_true c) JZ) (λ_=>aB (λc=>absurd (of_decide_eq_true c) JZ) (λ_=>aA (by simp;omega) ⟨l.take (i.toNat+1),⟨by rw [m,AW];omega,by rw [m,DB,a6F]⟩,⟨λx L=>g x (DY L),by rw [AW];omega⟩,λh2 id z=>?_⟩)));have j:i.toNat< (aD (l.take (i.toNat+1))).length:=by rw [bA,AW];omega
  refine aA (by simp;omega) (aC z (fD j JZ (bN hk ?_)))
  congr 1
  rw [I8 (pP (GZ (i.toNat+1) l)) j,AH,AB j];rfl
 .exact hk.elim
def a0O:=aV 41 a2C Pn
theorem a7V:aS env a0O:=aE e2M (Wz)
end Go.Proofs.YtkonebkblgemkaaGreat
end
end
