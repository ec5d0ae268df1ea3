/-
  Texts of this proof, one after the other.
  Conditions: none.
-/
import Derived.Test.YtkonebkblgemkaaGreatW8
set_option linter.unusedVariables false
set_option linter.unusedSimpArgs false
set_option maxRecDepth 100000
set_option maxHeartbeats 4000000
noncomputable section
variable{i j m b:Nat}{x y z u v:Int}{h g:Go.Pv.Heap}{c d l:List Go.Pv.IV}{A B C:List Go.M15.Nd}{K L:Y12}{s t:Go.Pv.IV}{F:List Go.M10.E}{D:Go.Pv.Meta}{V W:List Go.Value}{T U:Go.TypeId}{o:Bool}{X Y:Go.Value}{r:Y11}{G:Go.M10.BSt}{O:Go.Oper}{N:Y10}{H:Array Go.Value}
section
namespace Go.M14
open Go.Pv Go.M13 Go.M15 Go.M10
theorem c8D{c:Y14}(h:a1W c){q:Nat}(m:q<2): ∃g:Gr,GrOk g/\∀j,j<5->c[q*5+j]?=(gC g)[j]?:=by
 obtain⟨L,l,ho,rfl⟩:=h
 match L,l with
 | [a,b],_=>
  match q,m with
  |0,_=>exact⟨a,ho a BG,λj i=>by rw [BF,BM (by show 0*5+j<5;omega),FK,AY]⟩
  |1,_=>exact⟨b,ho b (CC _ BG),λj i=>by
   rw [BF,BC (by show 5<=1*5+j;omega),BF,BM (by show 1*5+j-5<5;omega)];exact congrArg _ (show 1*5+j-5=j by omega)⟩
theorem c3Y{l:Y15}{q:Nat}(h:(aD l).getD q 0=3): ∀{i:Nat},q<i->vK l i (l.getD q default).im=true
 |0,hq=>absurd hq (DN _)
 |i+1,hq=>by
  rw [vK,CL];rcases BK q i with c|c
  .exact .inl (c3Y h c)
  .obtain rfl:q=i:=JZ;exact .inr (by rw [decide_eq_true h,decide_eq_true rfl];rfl)
theorem e1C{l:Y15}{i:Nat}{x:LV}(h:x∈Br l i): ∃im j:Int,x.v=16*im+j/\(1<=j/\j<=15)/\(0<=im/\im<=15)/\vK l i im=true:=by
 obtain⟨q,j,h1,h2,_,⟨h3,h4⟩,rfl⟩:=Sl h;have g:=gJ h2;have ho:=g.odd;exact⟨(l.getD q default).im,(j:Int),rfl,⟨JZ,JZ⟩,g.im,c3Y h2 h1⟩
theorem Wn(l:Y15): ∀i,((Br l i).map (λx=>x.v)).Nodup
 |0=>List.nodup_nil
 |i+1=>by
  rw [Br,BY,List.nodup_append];refine⟨Wn l i,?_,λa u b g=>?_⟩
  .split
   .unfold Et
    rw [List.map_map];refine List.Pairwise.map _ (λa b (hab:a≠b)=>?_) List.nodup_range;show(16*(l.getD i default).im+((a+1:Nat):Int))≠(16*(l.getD i default).im+((b+1:Nat):Int));omega
   .exact List.nodup_nil
  .split at g
   .rename_i c;obtain⟨x,z,rfl⟩:=DU.1 u;obtain⟨y,m,rfl⟩:=DU.1 g;obtain⟨r,j,e,h1,h2,h3⟩:=e1C z;unfold Et at m;obtain⟨k,hk,rfl⟩:=DU.1 m;rw [EO]at hk;have ho:=(gJ c.1).odd;intro q;have A:16*r+j=16*(l.getD i default).im+((k+1:Nat):Int):=by rw [<-e];exact q
    have:r=(l.getD i default).im:=JZ;rw [this,c.2]at h3
    cases h3
   .cases g
theorem b1S{α:Type}{f:α->Int}{L:List α}(h:(L.map f).Nodup){x y:α}(hx:x∈L)(hy:y∈L)(e:f x=f y):x=y:=by
 obtain⟨i,g,rfl⟩:=DK.1 hx;obtain⟨j,l,rfl⟩:=DK.1 hy;have m:=ID.1 h;rcases HX i j with c|c|c
 .have:=m i j (by rw [AX];exact g) (by rw [AX];exact l) c;rw [List.getElem_map,List.getElem_map]at this;exact absurd e this
 .subst c;rfl
 .have:=m j i (by rw [AX];exact l) (by rw [AX];exact g) c;rw [List.getElem_map,List.getElem_map]at this;exact absurd e.symm this
theorem a9K{v:Int} : ∀{n:Nat}{L:List LV},L.length=n->(∃x∈L,x.v=v)-> ∃y,Yl L v=some y
 |0,L,hL,⟨x,g,_⟩=>by rw [IT.1 hL]at g;cases g
 |n+1,L,hL,⟨x,g,hv⟩=>by
  have i:L≠[]:=λe=>by rw [e]at hL;cases hL
  have e:=HP i;rw [<-e,Gf]
  by_cases c:v=(L.getLast i).v
  .exact⟨_,if_pos c⟩
  .rw [if_neg c];rw [<-e]at g;rcases BZ.1 g with g|g
   .exact a9K (n:=n) (by rw [List.length_dropLast];omega) ⟨x,g,hv⟩
   .rw [BU.1 g]at hv;exact absurd hv.symm c
theorem e5D{l:Y15}{x:LV}(h:x∈aI l):Yl (aI l) x.v=some x:=by
 obtain⟨y,g⟩:=a9K rfl ⟨x,h,rfl⟩;obtain⟨a,b⟩:=Te g;rw [g,b1S (Wn l _) a h b]
def amG(q:Iv)(n:Int)(s:Int):Iv×Bool:=if(Tb n (s==1)).2=true then Vs q (Tb n (s==1)).1 else((0,0),false)
def alG(q:Iv)(n:Int)(s:Int):Iv×Bool:=if(Qo n (s==1)).2=true then Vs q (Qo n (s==1)).1 else((0,0),false)
def iQ(C:List (Int×Iv))(v:Int):Iv×Bool:=match C.find? (λp=>decide (p.1=v))with
 |some p=>(p.2,true)
 |none=>(aJ,false)
theorem a7J(C:List (Int×Iv))(v:Int):(if(iQ C v).1.1<=(iQ C v).1.2 then(iQ C v).1 else aJ)=(kSI C v).getD aJ:=by
 unfold iQ kSI
 cases C.find? (λp=>decide (p.1=v))with
 |none=>simp [aJ,dH,dN]
 |some p=>
  dsimp only;split
  .rfl
  .rfl
def joQ(a b:Iv×Bool):Iv×Bool:=if a.2=false then b else if b.2=false then a else(Vn a.1 b.1,true)
def eO(a:Iv×Bool):IV:= .agg [.int .i64 a.1.1,.int .i64 a.1.2,.bool a.2]
def E6(l:Y15)(v:Int):Nat->Int
 |0=> -1
 |i+1=>if E6 l v i≠ -1 then E6 l v i else if(l.getD i default).op=31/\(l.getD i default).im=v/\(aD l).getD i 0=3 then(i:Int)else-1
def T6(l:Y15)(v:Int):Int:=E6 l v l.length
theorem a3O(l:Y15)(v:Int): ∀n,E6 l v n= -1\/ (0<=E6 l v n/\E6 l v n<n)
 |0=> .inl rfl
 |i+1=>by
  rw [E6];rcases a3O l v i with h|h
  .rw [if_neg (by simp [h])];split
   .exact .inr ⟨JZ,JZ⟩
   .exact .inl rfl
  .rw [if_pos JZ];exact .inr ⟨h.1,JZ⟩
theorem H2{l:Y15}{v:Int}{i:Nat}(h:E6 l v i≠ -1): ∀n,i<=n->E6 l v n=E6 l v i
 |0,q=>by
  have:i=0:=JZ;rw [this]
 |n+1,q=>by
  rcases BK n i with c|c
  .have:i=n+1:=JZ;rw [this]
  .have e:=H2 h n c;rw [E6,if_pos (by rw [e];exact h),e]
theorem Mr{g:Heap}{sz bytes:Nat}{xs:Y14}{K:Nat->Nat->Nat->Y14->Heap->Prop}(i:bytes<=140737488355328)(hk:g.push (.tip (sz*1))=g.push (.tip (sz*1))->K g.next (sz*1) 1 xs (g.push (.tip (sz*1)))):dX g sz bytes .nilslice 1 xs K:=by
 simp_all [dX,AM,Nat.one_mul]
theorem yX{g:Heap}{sz bytes t n:Nat}{c xs:Y14}{K:Nat->Nat->Nat->Y14->Heap->Prop}(i:(n+1)*bytes<=140737488355328)(j:g.get t= .tip (sz*n))(hk:K t (sz*(n+1)) (n+1) (c++xs) (g.set t (.tip (sz*(n+1))))):dX g sz bytes (.vslice (some t) (sz*n) n sz c) 1 xs K:=by
 grind [dX,Nat.mul_add]
structure RiX where
 i:Nat
 t:Nat
 g:Heap
 q:Iv
structure RiR(l:Y15)(x:RiX):Prop where
 i:1<=x.i/\x.i<=l.length
 g:x.g.get x.t= .tip (2*x.i)
structure RuX where
 i:Nat
 t:Nat
 j:Nat
 g:Heap
 v:IV
 b:Bool
def unV(vs:Y12)(C:List (Int×Iv))(v:Int):Bool:=vs.any (λw=>decide (w=v)) &&!(iQ C v).2
structure RuR(l:Y15)(i t:Nat)(g:Heap):Prop where
 le:1<=i/\i<=l.length
 tp:g.get t= .tip (1*i)
structure RuV(l:Y15)(un:Int->Bool)(x:RuX):Prop where
 e:(x.i=0/\x.v= .nilslice/\x.g=Heap.mk PT.nil 0) \/ (RuR l x.i x.t x.g/\x.v= .vslice (some x.t) (1*x.i) x.i 1 ((uP l un x.i).map IV.bool))
theorem Xu: ∀b:Y13,aQ (b.map IV.bool)=true
 | []=>rfl
 |_::r=>by
  show(true&&aQ (r.map IV.bool))=true;rw [BD];exact Xu r
def lkO(o:Option Iv):Iv×Bool:=match o with
 |some r=>(r,true)
 |none=>(aJ,false)
theorem c0O(o:Option Iv):(lkO o).2=o.isSome:=by cases o<;>rfl
def CKn(C:List (Int×Iv))(g:Int->Option Iv):Prop:= ∀v,iQ C v=lkO (g v)
theorem c0M(C:List (Int×Iv))(v:Int):(iQ C v).2=fW C v:=by
 rw [<-oZ];unfold iQ
 cases C.find? (λp=>decide (p.1=v))<;>rfl
theorem CKn.kSI{C:List (Int×Iv)}{g:Int->Option Iv}(h:CKn C g)(hk: ∀v r,g v=some r->r.1<=r.2):kSI C=g:=by
 funext v;have:=h v;unfold iQ at this;unfold Go.M14.kSI
 cases e:C.find? (λp=>decide (p.1=v))with
 |none=>
  rw [e]at this
  cases e2:g v with
  |none=>rfl
  |some r=>rw [e2]at this;cases congrArg Prod.snd this
 |some p=>
  rw [e]at this
  cases e2:g v with
  |none=>rw [e2]at this;cases congrArg Prod.snd this
  |some r=>
   rw [e2]at this;have i:p.2=r:=congrArg Prod.fst this;dsimp only;rw [i,if_pos (hk v r e2)]
theorem CKn.unV{C:List (Int×Iv)}{g:Int->Option Iv}(h:CKn C g)(vs:List LV):unV (vs.map λx=>x.v) C=zL vs g:=by
 funext v;unfold Go.M14.unV zL
 rw [h v,c0O,List.any_map,<-Option.not_isSome];rfl
def J4(v:Int)(y:Iv)(p:Int×Iv):Int×Iv:=if p.1=v then(p.1,y)else p
theorem Nf(v w:Int)(y:Iv): ∀C:List (Int×Iv),(C.map (J4 v y)).find? (λp=>decide (p.1=w))=(C.find? (λp=>decide (p.1=w))).map (J4 v y)
 | []=>rfl
 |p::r=>by
  have e:(J4 v y p).1=p.1:=by unfold J4;split<;>rfl
  rw [BN,EH,EH,e,Nf v w y r]
  cases decide (p.1=w)<;>rfl
theorem Wi{C:List (Int×Iv)}{v w:Int}{y:Iv}(h:fW C v=true):iQ (C.map (J4 v y)) w=if w=v then(y,true)else iQ C w:=by
 unfold iQ
 rw [Nf];rw [<-oZ]at h
 by_cases e:w=v
 .rw [if_pos e,e]
  cases e2:C.find? (λp=>decide (p.1=v))with
  |none=>rw [e2]at h;cases h
  |some p=>
   have:p.1=v:=by simpa using List.find?_some e2
   dsimp only [Option.map_some];unfold J4
   rw [if_pos this]
 .rw [if_neg e]
  cases e2:C.find? (λp=>decide (p.1=w))with
  |none=>rfl
  |some p=>
   have:p.1=w:=by simpa using List.find?_some e2
   dsimp only [Option.map_some];unfold J4
   rw [if_neg (λq=>e (this.symm.trans q))]
theorem c0N(C:List (Int×Iv))(p:Int×Iv)(w:Int):iQ (C++ [p]) w=if fW C w=true then iQ C w else if p.1=w then(p.2,true)else(aJ,false):=by
 unfold iQ
 rw [FI,<-oZ]
 cases h:C.find? (λp=>decide (p.1=w))with
 |some q=>rfl
 |none=>
  rw [Option.none_or,EH]
  by_cases e:p.1=w
  .rw [decide_eq_true e];simp only [e,if_true];rfl
  .rw [decide_eq_false e];simp only [e,if_false];rfl
theorem CKn.set{C D:List (Int×Iv)}{g:Int->Option Iv}{v:Int}{y:Iv}(h:CKn C g)(i:(fW C v=true/\D=C) \/ (fW C v=false/\D=C++ [(v,y)])):CKn (D.map (J4 v y)) (qT g v y):=λw=>by
 unfold qT
 rcases i with⟨a,rfl⟩| ⟨a,rfl⟩
 .rw [Wi a,h w];split<;>rfl
 .have b:fW (C++ [(v,y)]) v=true:=by rw [V2,decide_eq_true rfl,GH]
  rw [Wi b]
  by_cases e:w=v
  .rw [if_pos e,if_pos e];rfl
  .rw [if_neg e,if_neg e,c0N,h w];split
   .rfl
   .rename_i q;rw [if_neg (λz=>e z.symm)];rw [<-c0M,h w,c0O]at q
    cases e2:g w with
    |none=>rfl
    |some r=>rw [e2]at q;exact absurd rfl q
theorem c8B{C:List (Int×Iv)}{g:Int->Option Iv}(h:CKn C g)(v:Int):fW C v=(g v).isSome:=by
 rw [<-c0M,h v,c0O]
def a1O(vs:List LV)(g:Int->Option Iv):Nat:=(vs.filter λx=>(g x.v).isSome).length
theorem c7P(vs:List LV)(g:Int->Option Iv):a1O vs g<=vs.length:=List.length_filter_le _ _
theorem Uy(g:Int->Option Iv)(v:Int)(y:Iv): ∀vs:List LV,a1O vs g<=a1O vs (qT g v y)/\(g v=none->(∃x∈vs,x.v=v)->a1O vs g+1<=a1O vs (qT g v y))
 | []=>⟨AF _,λ_ ⟨x,h,_⟩=>by cases h⟩
 |x::r=>by
  obtain⟨h1,h2⟩:=Uy g v y r;unfold a1O at h1 h2⊢;rw [List.filter_cons,List.filter_cons]
  by_cases e:x.v=v
  .have a:(qT g v y x.v).isSome=true:=by unfold qT;rw [if_pos e];rfl
   rw [a]
   cases b:(g x.v).isSome with
   |true=>
    refine⟨by simp only [if_true,AS];omega,λq=>?_⟩;rw [e,q]at b
    cases b
   |false=>exact⟨by simp only [if_true,AS,BA,if_false];omega,λ_ _=>by simp only [if_true,AS,BA,if_false];omega⟩
  .have a:qT g v y x.v=g x.v:=by unfold qT;rw [if_neg e]
   rw [a];refine⟨by split<;>(try rw [AS,AS])<;>omega,λq ⟨z,i,j⟩=>?_⟩;rcases CD.1 i with rfl|i
   .exact absurd j e
   .have:=h2 q ⟨z,i,j⟩;split<;>(try rw [AS,AS])<;>omega
def Tf(o:Iv×Bool)(r:Int)(y:Iv):Iv:=if 3<r/\o.2=true then(wlo o.1.1 (min o.1.1 y.1),whi o.1.2 (max o.1.2 y.2))else y
def stQ(l:Y15)(x:LV)(o:Iv×Bool)(i:Int->Bool)(g:Int->Option Iv)(r:Int):Iv×Bool:=
 joQ (joQ o (Tf o r (gR (rG l g) x.f),!gU (uG l i) x.f))
  (if r<=12/\gU (uG l i) x.n=false/\gU (uG l i) x.d=false then jL l x (Tf o r (gR (rG l g) x.n)) (rG l g)else(Tf o r (gR (rG l g) x.n),!gU (uG l i) x.n))
theorem d6W(o:Option Iv)(r:Nat)(y:Iv):Tf (lkO o) (r:Int) y=tY o r y:=by
 unfold Tf tY
 cases o with
 |none=>exact if_neg (λq=>by cases q.2)
 |some o=>
  by_cases e:3<r
  .have a:(3:Int)< (r:Int)/\(lkO (some o)).2=true:=⟨JZ,rfl⟩;rw [if_pos a];dsimp only;rw [if_pos e];rfl
  .have a: ¬ ((3:Int)< (r:Int)/\(lkO (some o)).2=true):=λq=>e JZ
   rw [if_neg a];dsimp only;rw [if_neg e]
def Ah(q:Iv×Bool)(o:Option Iv):Prop:=match o with
 |some y=>q=(y,true)
 |none=>q.2=false
theorem Rb{a:Iv×Bool}{o:Option Iv}(h:Ah a o)(q:Iv×Bool):Ah (joQ a q) (if q.2=true then joG o q.1 else o):=by
 obtain⟨i,g⟩:=q
 cases o with
 |none=>
  have h':a.2=false:=h;unfold joQ
  rw [if_pos h']
  cases g
  .exact rfl
  .exact rfl
 |some y=>
  have h':a=(y,true):=h;rw [h']
  cases g
  .exact rfl
  .exact rfl
theorem d1D(l:Y15)(x:LV)(g:Int->Option Iv)(i:Int->Bool)(r:Nat):Ah (stQ l x (lkO (g x.v)) i g (r:Int)) (qU l g i x r):=by
 have h0:Ah (lkO (g x.v)) (g x.v):=by cases g x.v<;>rfl
 have h1:Ah (joQ (lkO (g x.v)) (Tf (lkO (g x.v)) r (gR (rG l g) x.f),!gU (uG l i) x.f)) (if gU (uG l i) x.f=true then g x.v else joG (g x.v) (tY (g x.v) r (gR (rG l g) x.f))):=by
  have:=Rb h0 (Tf (lkO (g x.v)) r (gR (rG l g) x.f),!gU (uG l i) x.f);rw [d6W]at this⊢;dsimp only at this
  cases e:gU (uG l i) x.f
  .rw [e]at this;exact this
  .rw [e]at this;exact this
 unfold stQ qU
 dsimp only;generalize hj:(if gU (uG l i) x.f=true then g x.v else joG (g x.v) (tY (g x.v) r (gR (rG l g) x.f)))=j1 at*
 rw [d6W (g x.v) r (gR (rG l g) x.n)]
 by_cases en:gU (uG l i) x.n=true
 .rw [if_pos en,if_neg (λq=>by rw [en]at q;cases q.2.1),en];exact Rb h1 (_,false)
 .rw [if_neg en];have j:gU (uG l i) x.n=false:=by simpa using en
  by_cases c:r<=12/\gU (uG l i) x.d=false
  .rw [if_pos ⟨JZ,j,c.2⟩,if_pos c];exact Rb h1 _
  .rw [if_neg (λq=>c ⟨JZ,q.2.2⟩),if_neg c,j];exact Rb h1 (_,true)
theorem Si{l:Y15}{v:Int} : ∀n,n<=l.length->(E6 l v n= -1 ↔ vK l n v=false)
 |0,_=>⟨λ_=>rfl,λ_=>rfl⟩
 |i+1,h=>by
  have g:=Si (l:=l) (v:=v) i JZ;rw [E6,vK,Bool.or_eq_false_iff,<-g]
  by_cases c:E6 l v i= -1
  .rw [if_neg (by simp [c])]
   by_cases d:(aD l).getD i 0=3
   .by_cases e:(l.getD i default).im=v
    .rw [if_pos ⟨(gJ d).op,e,d⟩,d,e];simp
    .rw [if_neg (λq=>e q.2.1),d,decide_eq_false e];simp [c]
   .rw [if_neg (λq=>d q.2.2),decide_eq_false d];simp [c]
  .rw [if_pos c];exact⟨λq=>absurd q c,λq=>absurd q.1 c⟩
theorem Sh{l:Y15}{i:Nat}(h3:(aD l).getD i 0=3)(m:vK l i (l.getD i default).im=false):T6 l (l.getD i default).im=(i:Int):=by
 have g:=gJ h3;have e0:=(Si i (by have:=g.lt;omega)).2 m;have j:E6 l (l.getD i default).im (i+1)=(i:Int):=by
  rw [E6,if_neg (λq=>q e0),if_pos ⟨g.op,rfl,h3⟩]
 unfold T6
 rw [H2 (i:=i+1) (by rw [j];omega) _ g.lt,j]
theorem c8P{l:Y15}{i:Nat}(h3:(aD l).getD i 0=3):T6 l (l.getD i default).im=(i:Int) ↔ vK l i (l.getD i default).im=false:=by
 refine⟨λh=>?_,Sh h3⟩;have g:=gJ h3
 cases e:vK l i (l.getD i default).im with
 |false=>rfl
 |true=>
  have e0:E6 l (l.getD i default).im i≠ -1:=λq=>by
   rw [Si i (by have:=g.lt;omega),e]at q
   cases q
  have:=a3O l (l.getD i default).im i;unfold T6 at h;rw [H2 e0 _ (by have:=g.lt;omega)]at h;omega
def fI(l:Y15):Y12:=(aI l).map λx=>x.v
structure LvAt(l:Y15)(x:LV)(i j:Nat):Prop where
 s:(aD l).getD i 0=3
 n:vK l i (l.getD i default).im=false
 jj:1<=j/\j< (l.getD i default).ks.length/2
 e:x=aX (l.getD i default) j
theorem LvAt.lvs{l:Y15}{x:LV}{i j:Nat}(h:LvAt l x i j):LvS l x.f x.n x.d:=by
 obtain⟨h2,_,⟨h3,h4⟩,rfl⟩:=h;have g:=gJ h2;obtain⟨a,b,c⟩:=Z9 g h4;have ho:=g.odd;have m:=g.lt;refine⟨⟨a.1,JZ⟩,⟨b.1,JZ⟩,⟨c.1,JZ,?_⟩⟩;have e:((l.getD i default).ks.length-1)/2=(l.getD i default).ks.length/2:=JZ;have:=g.at (j:=(l.getD i default).ks.length/2) ⟨JZ,JZ,JZ⟩;rw [<-e]at this;exact this
theorem kAt{ks:Y12}{q:Nat}(h:q<ks.length):(ks.map (IV.int .i64))[q]?=some (.int .i64 (ks.getD q 0)):=by
 grind
theorem rAt{R:List Iv}{q:Int}(h0:0<=q)(h:q<R.length):(R.flatMap cR)[q.toNat*2]?=some (.int .i64 (gR R q).1)/\(R.flatMap cR)[q.toNat*2+1]?=some (.int .i64 (gR R q).2):=by
 have g:q.toNat<R.length:=JZ;unfold gR
 rw [AH,AB g];exact A5 g
theorem uAt{U:Y13}{q:Int}(h0:0<=q)(h:q<U.length):(U.map IV.bool)[q.toNat]?=some (.bool (gU U q)):=by
 have g:q.toNat<U.length:=JZ;unfold gU
 rw [BJ,AH,AB g];rfl
theorem a7N{l:Y15}{x:LV}(h:x∈aI l): ∃i j,LvAt l x i j:=by
 obtain⟨i,j,_,a,b,c,e⟩:=Sl h;exact⟨i,j,a,b,c,e⟩
def mG(l:Y15)(n i:Nat):(Int->Option Iv) ×Bool:=((aI l).take i).foldl (Ga l (aI l) (n+1)) ((eT l (aI l) n).1,false)
theorem Vc{l:Y15}{n i:Nat}(h:i< (aI l).length):mG l n (i+1)=Ga l (aI l) (n+1) (mG l n i) (aI l)[i]:=by
 unfold mG
 rw [AO h,GQ];rfl
theorem F7{l:Y15}{n i:Nat}(h:i=(aI l).length):mG l n i=eT l (aI l) (n+1):=by
 subst h;unfold mG
 rw [EC];rfl
theorem b7P{l:Y15}(g: ∀n∈l,aZ n.im)(n i:Nat):KOk (mG l n i).1:=by
 grind [Bn,aI,eT,W6,St,aZ,KOk,mG,DY]
structure RvC(l:Y15)(n i:Nat)(C:List (Int×Iv)):Prop where
 r: ∀m,m<n+1->(eT l (aI l) m).2=true
 ii:i<=(aI l).length
 k:CKn C (mG l n i).1
 c:C.length<=a1O (aI l) (mG l n i).1
 o: ∀p∈C,cF p.2
theorem d2I(l:Y15):(fI l).length=(aI l).length:=by unfold fI;rw [AX]
theorem E1{l:Y15}{i:Nat}(h:i< (aI l).length):((fI l).map (IV.int .i64))[i]?=some (.int .i64 (aI l)[i].v):=by
 unfold fI
 rw [BJ,BJ,AB h];rfl
def vU(C:List (Int×Iv))(v:Int)(y:Iv):List (Int×Iv):=if fW C v=true then C else C++ [(v,y)]
theorem RvC.skip{l:Y15}{n i:Nat}{C:List (Int×Iv)}(h:RvC l n i C)(g:i< (aI l).length)(j:oT l (mG l n i).1 (zL (aI l) (mG l n i).1) (aI l)[i] (n+1)=none):RvC l n (i+1) C/\mG l n (i+1)=mG l n i:=by
 have e:mG l n (i+1)=mG l n i:=by rw [Vc g,J6 j]
 exact⟨⟨h.r,g,by rw [e];exact h.k,by rw [e];exact h.c,h.o⟩,e⟩
theorem RvC.add{l:Y15}{n i:Nat}{C:List (Int×Iv)}{y:Iv}(g: ∀n∈l,aZ n.im)(h:RvC l n i C)(j:i< (aI l).length)(G:oT l (mG l n i).1 (zL (aI l) (mG l n i).1) (aI l)[i] (n+1)=some y):
  RvC l n (i+1) ((vU C (aI l)[i].v y).map (J4 (aI l)[i].v y))/\(mG l n (i+1)).2=true:=by
 obtain⟨h1,h2,_⟩:=J7 (r:=n+1) (x:=(aI l)[i]) G;have e:mG l n (i+1)=(qT (mG l n i).1 (aI l)[i].v y,true):=by rw [Vc j,h1]
 have u:Sm y:=Gd g (b7P g n i) (W6 (AG j)) y h2;have A:=Uy (mG l n i).1 (aI l)[i].v y (aI l);have hk:=c8B h.k (aI l)[i].v;refine⟨⟨h.r,j,?_,?_,?_⟩,by rw [e]⟩
 .rw [e];refine h.k.set ?_;unfold vU
  split
  .rename_i q;exact .inl ⟨q,rfl⟩
  .rename_i q;exact .inr ⟨by simpa using q,rfl⟩
 .rw [e,AX];dsimp only;have:=h.c;unfold vU
  split
  .omega
  .rename_i q;rw [hk]at q;have K:(mG l n i).1 (aI l)[i].v=none:=by
    cases z:(mG l n i).1 (aI l)[i].v with
    |none=>rfl
    |some w=>rw [z]at q;exact absurd rfl q
   have:=A.2 K ⟨_,AG j,rfl⟩;rw [AI];simp only [AS,BL];omega
 .intro p D;obtain⟨q,m,rfl⟩:=DU.1 D;unfold J4
  split
  .exact u.2
  .unfold vU at m;split at m
   .exact h.o q m
   .rcases BZ.1 m with z|z
    .exact h.o q z
    .rw [BU.1 z];exact u.2
theorem RvC.step{l:Y15}{n i:Nat}{C:List (Int×Iv)}(g: ∀n∈l,aZ n.im)(h:RvC l n i C)(y:i< (aI l).length):
  Ah (stQ l (aI l)[i] (iQ C (aI l)[i].v) (unV (fI l) C) (kSI C) ((n+1:Nat):Int)) (qU l (mG l n i).1 (zL (aI l) (mG l n i).1) (aI l)[i] (n+1)):=by
 have j:kSI C=(mG l n i).1:=h.k.kSI λv r q=>(b7P g n i v r q).1
 have m:unV (fI l) C=zL (aI l) (mG l n i).1:=h.k.unV _;have u:=h.k (aI l)[i].v;rw [j,m,u];exact d1D l (aI l)[i] (mG l n i).1 (zL (aI l) (mG l n i).1) (n+1)
def OvL(g:Heap)(i:IV)(L:Y12):Prop:=(i= .nilslice/\L=[]) \/ ∃io,i= .vslice (some io) (L.length*1) L.length 1 (L.map (IV.int .i64))/\g.get io= .tip (L.length*1)/\L≠[]
theorem OvL.app{g:Heap}{x:Int}{K:Nat->Nat->Nat->Y14->Heap->Prop}(h:OvL g s L)(l:L.length<=2000000)(hk: ∀id e n c g2,OvL g2 (.vslice (some id) e n 1 c) (L++ [x])->K id e n c g2):dX g 1 8 s 1 [.int .i64 x] K:=by
 rcases h with⟨rfl,rfl⟩| ⟨j,rfl,i,_⟩
 .exact⟨KA,hk _ _ _ _ _ (.inr ⟨g.next,rfl,aW,List.cons_ne_nil _ _⟩)⟩
 .refine⟨⟨rfl,JZ,i⟩,hk _ _ _ _ _ (.inr ⟨j,?_,?_,KB⟩)⟩
  .rw [AI,BY];simp only [AS,BL,BN,DT];rw [show(L.length+(0+1))*1=L.length*1+1*1 by omega]
  .rw [aH,AI];simp only [AS,BL]
   congr 1
structure RvX where
 n:Nat
 i:Nat
 m:Nat
 t:Nat
 id:Nat
 g:Heap
 C:List (Int×Iv)
 y:Iv
 ov:IV
 cv:IV
def vsP(l:Y15)(i:Nat):Y12:=(Br l i).map λx=>x.v
def lvV(l:Y15)(i:Nat):LV:=(aI l).getD i ⟨0,0,0,0⟩
theorem Sk{l:Y15}{i:Nat}(h:i< (aI l).length):lvV l i=(aI l)[i]:=by
 unfold lvV
 rw [AH,AB h];rfl
structure RvM(l:Y15)(x:RvX)(C:List (Int×Iv)):Prop where
 i:x.i< (aI l).length
 c:RvC l x.n x.i C
 u:oT l (mG l x.n x.i).1 (zL (aI l) (mG l x.n x.i).1) (aI l)[x.i] (x.n+1)=some x.y
 m:x.m<=(vU C (lvV l x.i).v x.y).length
 e:x.C=((vU C (lvV l x.i).v x.y).take x.m).map (J4 (lvV l x.i).v x.y)++(vU C (lvV l x.i).v x.y).drop x.m
theorem RvM.len{l:Y15}{x:RvX}{C:List (Int×Iv)}(h:RvM l x C):x.C.length=(vU C (lvV l x.i).v x.y).length:=by
 rw [h.e,AI,AX,AW,DJ];have:=h.m;omega
theorem RvM.next{l:Y15}{x:RvX}{C:List (Int×Iv)}(h:RvM l x C)(hm:x.m<x.C.length)(g:Heap):
  (x.C[x.m]).1=((vU C (lvV l x.i).v x.y)[x.m]'(by rw [<-h.len];exact hm)).1/\RvM l {x with m:=x.m+1,g:=g,C:=x.C.set x.m (J4 (lvV l x.i).v x.y x.C[x.m]) } C:=by
 have z:=h.len;have j:x.m< (vU C (lvV l x.i).v x.y).length:=JZ;have e0:x.C[x.m]=(vU C (lvV l x.i).v x.y)[x.m]:=by
  have:x.C[x.m]?=(vU C (lvV l x.i).v x.y)[x.m]?:=by
   rw [h.e,BC (by rw [AX,AW];omega),AX,AW,DS]
   congr 1
   omega
  rw [AB hm,AB j]at this;exact AV this
 refine⟨by rw [e0],⟨h.i,h.c,h.u,j,?_⟩⟩;dsimp only;rw [e0];have r:=h.e;rw [AO j,BY,JV]
 conv=>lhs;rw [r]
 rw [List.set_append_right _ _ (by rw [AX,AW];omega),AX,AW,show x.m-min x.m (vU C (lvV l x.i).v x.y).length=0 by omega,BV]
 congr 1
 rw [List.drop_eq_getElem_cons j];rfl
theorem RvM.done{l:Y15}{x:RvX}{C:List (Int×Iv)}(g: ∀n∈l,aZ n.im)(h:RvM l x C)(hm: ¬x.m<x.C.length):RvC l x.n (x.i+1) x.C/\(mG l x.n (x.i+1)).2=true:=by
 have j:=h.len;have a:=RvC.add g h.c h.i h.u;have e:=h.e;rw [AJ JZ,GU JZ,CZ,Sk h.i]at e;rw [e];exact a
theorem RvM.start{l:Y15}{x:RvX}{C:List (Int×Iv)}(j:RvC l x.n x.i C)(g:x.i< (aI l).length)(r:oT l (mG l x.n x.i).1 (zL (aI l) (mG l x.n x.i).1) (aI l)[x.i] (x.n+1)=some x.y)(hm:x.m=0)(e:x.C=vU C (aI l)[x.i].v x.y):RvM l x C:=
 ⟨g,j,r,by rw [hm];exact AR _,by rw [hm,List.take_zero,DT,DG,DB,Sk g];exact e⟩
theorem RvC.none{l:Y15}{n i:Nat}{C:List (Int×Iv)}(j: ∀n∈l,aZ n.im)(h:RvC l n i C)(z:i< (aI l).length){q:Iv×Bool}(e:q=stQ l (aI l)[i] (iQ C (aI l)[i].v) (unV (fI l) C) (kSI C) ((n+1:Nat):Int)):
  (q.2=false\/ ((iQ C (aI l)[i].v).2=true/\q.2=true/\q.1=(iQ C (aI l)[i].v).1))->oT l (mG l n i).1 (zL (aI l) (mG l n i).1) (aI l)[i] (n+1)=none:=by
 have s:=h.step j z;rw [<-e]at s;have k:=h.k (aI l)[i].v;unfold oT
 unfold Ah at s;intro c
 cases hu:qU l (mG l n i).1 (zL (aI l) (mG l n i).1) (aI l)[i] (n+1)with
 |none=>rfl
 |some y=>
  rw [hu]at s;dsimp only at s⊢;rcases c with c| ⟨m,A,u⟩
  .rw [s]at c;cases c
  .cases hk:(mG l n i).1 (aI l)[i].v with
   |none=>rw [k,hk]at m;cases m
   |some r=>
    rw [k,hk,s]at u;have g:y=r:=u;rw [if_pos (by rw [g])]
theorem RvC.some{l:Y15}{n i:Nat}{C:List (Int×Iv)}(g: ∀n∈l,aZ n.im)(h:RvC l n i C)(m:i< (aI l).length){q:Iv×Bool}(e:q=stQ l (aI l)[i] (iQ C (aI l)[i].v) (unV (fI l) C) (kSI C) ((n+1:Nat):Int))(h2:q.2=true)(j:(iQ C (aI l)[i].v).2=true->q.1≠(iQ C (aI l)[i].v).1):
  oT l (mG l n i).1 (zL (aI l) (mG l n i).1) (aI l)[i] (n+1)=some q.1:=by
 have s:=h.step g m;rw [<-e]at s;have k:=h.k (aI l)[i].v;unfold oT
 unfold Ah at s
 cases hu:qU l (mG l n i).1 (zL (aI l) (mG l n i).1) (aI l)[i] (n+1)with
 |none=>rw [hu]at s;rw [h2]at s;cases s
 |some y=>
  rw [hu]at s;dsimp only at s⊢;rw [if_neg,s];intro hk;rw [k,hk]at j;exact j rfl (by rw [s];rfl)
theorem RvC.init(l:Y15):RvC l 0 0 []:=⟨λm hm=>by
 obtain rfl:m=0:=JZ;rfl,AR _,λv=>rfl,AR _,λp h=>by cases h⟩
theorem RvC.turn{l:Y15}{n i:Nat}{C:List (Int×Iv)}(h:RvC l n i C)(j: ¬i< (aI l).length)(g:(mG l n i).2=true):RvC l (n+1) 0 C:=by
 have e:mG l n i=eT l (aI l) (n+1):=F7 (by have:=h.ii;omega);have e0:(mG l (n+1) 0).1=(eT l (aI l) (n+1)).1:=rfl;refine⟨λm hm=>?_,AR _,by rw [e0,<-e];exact h.k,by rw [e0,<-e];exact h.c,h.o⟩;rcases BK m (n+1)with q|q
 .exact h.r m q
 .obtain rfl:m=n+1:=JZ;rw [<-e];exact g
theorem RvC.fin{l:Y15}{n i:Nat}{C:List (Int×Iv)}(h:RvC l n i C)(m: ¬i< (aI l).length)(j:(mG l n i).2=false):RvC l n (aI l).length C/\(eT l (aI l) (n+1)).2=false:=by
 have g:i=(aI l).length:=by have:=h.ii;omega
 have e:mG l n i=eT l (aI l) (n+1):=F7 g;exact⟨g▸h,by rw [<-e];exact j⟩
theorem RvC.bound{l:Y15}{n i:Nat}{C:List (Int×Iv)}(h:RvC l n i C):n<=12+3*(aI l).length:=X6 (l:=l) (vs:=aI l) (n:=n) λm hm=>h.r m JZ
theorem RvC.lenC{l:Y15}{n i:Nat}{C:List (Int×Iv)}(h:RvC l n i C):C.length<=(aI l).length:=CG h.c (c7P _ _)
theorem RvM.small{l:Y15}{x:RvX}{C:List (Int×Iv)}(h:RvM l x C):x.C.length<=(aI l).length+1:=by
 have:=h.c.lenC;rw [h.len];unfold vU
 split
 .omega
 .rw [AI,List.length_singleton];omega
theorem RvM.put{l:Y15}{x:RvX}{C:List (Int×Iv)}(h:RvM l x C)(hm:x.m<x.C.length)(e:(x.C[x.m]).1=((aI l)[x.i]'h.i).v)(g:Heap):RvM l {x with m:=x.m+1,g:=g,C:=x.C.set x.m ((x.C[x.m]).1,x.y) } C:=by
 have:=(h.next hm g).2;unfold J4 at this;rw [Sk h.i,if_pos e]at this;exact this
theorem RvM.same{l:Y15}{x:RvX}{C:List (Int×Iv)}(h:RvM l x C)(hm:x.m<x.C.length)(e:(x.C[x.m]).1≠((aI l)[x.i]'h.i).v):RvM l {x with m:=x.m+1 } C:=by
 have:=(h.next hm x.g).2;unfold J4 at this;rw [Sk h.i,if_neg e,JI]at this;exact this
theorem Po{C:List (Int×Iv)}{m:Nat}(h:m<C.length)(y:Iv):(C.flatMap cL).take (m*3+1)++ [IV.int .i64 y.1,IV.int .i64 y.2]++(C.flatMap cL).drop (m*3+3)=(C.set m (C[m].1,y)).flatMap cL:=by
 induction C generalizing m with
 |nil=>exact absurd h (DN _)
 |cons p r ih=>
  cases m with
  |zero=>rfl
  |succ m=>
   have h':m<r.length:=by simpa using h
   have:=ih h';rw [HR,BF,BF,FD,<-this];rw [show(m+1)*3+1=(cL p).length+(m*3+1) by show _=3+_;omega,show(m+1)*3+3=(cL p).length+(m*3+3) by show _=3+_;omega,List.take_length_add_append,List.drop_length_add_append,BV,BV,BV]
theorem Wj{l:Y15}{v:Int} : ∀{n:Nat},n<=l.length->E6 l v n≠ -1-> ∃i:Nat,E6 l v n=(i:Int)/\i<n/\(aD l).getD i 0=3/\(l.getD i default).im=v/\vK l i v=false
 |0,_,h=>absurd rfl h
 |n+1,hl,h=>by
  rw [E6]at h⊢
  by_cases c:E6 l v n= -1
  .rw [if_neg (λq=>q c)]at h⊢;split at h
   .rename_i d;rw [if_pos d];exact⟨n,rfl,AQ _,d.2.2,d.2.1,(Si n JZ).1 c⟩
   .exact absurd rfl h
  .rw [if_pos c];obtain⟨i,h1,h2,h3⟩:=Wj (n:=n) JZ c;exact⟨i,h1,JZ,h3⟩
theorem e8K{l:Y15}{i j:Nat}(h3:(aD l).getD i 0=3)(r:vK l i (l.getD i default).im=false)(u:1<=j/\j< (l.getD i default).ks.length/2):aX (l.getD i default) j∈aI l:=by
 have m:=gJ h3;have g: ∀n,i<n->aX (l.getD i default) j∈Br l n:=λn=>by
  induction n with
  |zero=>intro q;exact absurd q (DN _)
  |succ n ih=>
   intro q;rw [Br,BZ];rcases BK i n with c|c
   .exact .inl (ih c)
   .obtain rfl:i=n:=JZ
    right
    rw [if_pos ⟨h3,r⟩];unfold Et
    refine DU.2 ⟨j-1,EO.2 JZ,?_⟩;rw [show j-1+1=j by omega]
 exact g _ m.lt
theorem Bx{l:Y15}{v:Int}(h:v<0\/T6 l (v/16)<0\/v%16=0\/ (((l.getD (T6 l (v/16)).toNat default).ks.length/2:Nat):Int)<=v%16):Yl (aI l) v=none:=by
 cases e:Yl (aI l) v with
 |none=>rfl
 |some x=>
  obtain⟨a,b⟩:=Te e;obtain⟨i,j,g⟩:=a7N a;have m:=gJ g.s;have y:=m.im;have z:=m.odd;have A:=g.jj;have ev:x.v=16*(l.getD i default).im+(j:Int):=by rw [g.e];rfl
  have r:v/16=(l.getD i default).im:=JZ;have u:v%16=(j:Int):=JZ;rw [r,u,Sh g.s g.n,AK]at h;omega
theorem d2H{l:Y15}{v:Int}{i j:Nat}(h0:0<=v)(m:T6 l (v/16)=(i:Int))(A:v%16=(j:Int))(h1:1<=j)(h2:j< (l.getD i default).ks.length/2):LvAt l (aX (l.getD i default) j) i j/\Yl (aI l) v=some (aX (l.getD i default) j):=by
 obtain⟨g,e,h3,h4,u,y⟩:=Wj (l:=l) (v:=v/16) (n:=l.length) (AF _) (by
  have:E6 l (v/16) l.length=(i:Int):=m;omega)
 obtain rfl:g=i:=by
  have:E6 l (v/16) l.length=(i:Int):=m;omega
 have r:vK l g (l.getD g default).im=false:=by rw [u];exact y
 have z:LvAt l (aX (l.getD g default) j) g j:=⟨h4,r,⟨h1,h2⟩,rfl⟩;have ev:(aX (l.getD g default) j).v=v:=by
  show 16*(l.getD g default).im+(j:Int)=v;omega
 have:=e5D (e8K h4 r ⟨h1,h2⟩);rw [ev]at this;exact⟨z,this⟩
theorem I1{l:Y15}{C:List (Int×Iv)}{i:Nat}(h:Yl (aI l) (C.getD i (0,(0,0))).1=none):Ls l C i=false:=by
 unfold Ls
 rw [h]
theorem c9H{l:Y15}{C:List (Int×Iv)}{i:Nat}(h:fW (C.take i) (C.getD i (0,(0,0))).1=true):Ls l C i=false:=by
 unfold Ls
 split
 .rfl
 .rw [h];rfl
theorem c9I{l:Y15}{C:List (Int×Iv)}{i:Nat}(h: ¬ (C.getD i (0,(0,0))).2.1<=(C.getD i (0,(0,0))).2.2):Ls l C i=false:=by
 unfold Ls
 split
 .rfl
 .rw [decide_eq_false h,CN,EQ]
theorem e1I{l:Y15}{C:List (Int×Iv)}{i:Nat}{x:LV}(j:i<C.length)(h:Yl (aI l) (C[i]).1=some x)(h1:fW (C.take i) (C[i]).1=false)(h2:(C[i]).2.1<=(C[i]).2.2):Ls l C i=(ctd (gR (rG l (kSI C)) x.f) (C[i]).2&& (!(jL l x (gR (rG l (kSI C)) x.n) (rG l (kSI C))).2||ctd (jL l x (gR (rG l (kSI C)) x.n) (rG l (kSI C))).1 (C[i]).2)):=by
 have g:C.getD i (0,(0,0))=C[i]:=bO j;unfold Ls
 rw [g,h];dsimp only;rw [h1,decide_eq_true h2,FJ,BD,BD]
theorem c8C{l:Y15}{C:List (Int×Iv)}{i:Nat}(g:i<C.length)(h:Ls l C i=false):Ba l C=false:=Qw h _ g
theorem Dt{C:List (Int×Iv)}{k:Nat}(h:k<C.length)(v:Int):fW (C.take (k+1)) v=(fW (C.take k) v||decide ((C[k]).1=v)):=by
 rw [AO h,V2]
theorem Qv{C:List (Int×Iv)}{v:Int}{a b:Nat}(h:a<=b)(e:fW (C.take a) v=true):fW (C.take b) v=true:=by
 unfold fW at e⊢;obtain⟨p,g,j⟩:=IQ.1 e;exact IQ.2 ⟨p,DY (i:=a) (by rw [HO,FZ h];exact g),j⟩
end Go.M14
end
end
