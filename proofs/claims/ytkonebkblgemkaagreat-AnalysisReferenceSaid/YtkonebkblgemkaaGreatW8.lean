/-
  Texts of this proof, one after the other.
  Conditions: none.
-/
import Derived.Test.YtkonebkblgemkaaGreatW7
set_option linter.unusedVariables false
set_option linter.unusedSimpArgs false
set_option maxRecDepth 100000
set_option maxHeartbeats 4000000
noncomputable section
variable{i j m b:Nat}{x y z u v:Int}{h g:Go.Pv.Heap}{c d l:List Go.Pv.IV}{A B C:List Go.M15.Nd}{K L:Y12}{s t:Go.Pv.IV}{F:List Go.M10.E}{D:Go.Pv.Meta}{V W:List Go.Value}{T U:Go.TypeId}{o:Bool}{X Y:Go.Value}{r:Y11}{O:Go.Oper}{N:Y10}{H:Array Go.Value}
section
namespace Go.M14
open Go.Pv Go.M13 Go.M15 Go.M10
abbrev Iv:=Int×Int
def aJ:Iv:=(dH,dN)
def Vn(a b:Iv):Iv:=(min a.1 b.1,max a.2 b.2)
structure LV where
 v:Int
 f:Int
 n:Int
 d:Int
def aX(x:Nd)(j:Nat):LV:=⟨16*x.im+j,x.ks.getD j 0,x.ks.getD ((x.ks.length-1)/2+1+j) 0,x.ks.getD ((x.ks.length-1)/2) 0⟩
def gR(R:List Iv)(q:Int):Iv:=R.getD q.toNat (0,0)
def gU(U:Y13)(q:Int):Bool:=U.getD q.toNat false
def mP(l:Y15)(n:Nd):Nd:=l.getD (n.ks.getD 0 0).toNat default
def nR(l:Y15)(s:Int)(g:Int->Option Iv)(R:List Iv)(n:Nd):Iv:=
 if s≠1 then aJ
 else if n.op=3 then(g n.im).getD aJ
 else if n.op=25 then Vn (gR R (aX (mP l n) n.im.toNat).f) (gR R (aX (mP l n) n.im.toNat).n)
 else Bb R n
def rE(l:Y15)(s:Int)(g:Int->Bool)(U:Y13)(n:Nd):Bool:=
 if s≠1 then false
 else if n.op=3 then g n.im
 else if n.op=25 then gU U (aX (mP l n) n.im.toNat).f||gU U (aX (mP l n) n.im.toNat).n
 else decide (4<=n.op/\n.op<=22) &&n.ks.any (gU U)
def rP(l:Y15)(g:Int->Option Iv):Nat->List Iv
 |0=>[]
 |i+1=>rP l g i++ [nR l ((aD l).getD i 0) g (rP l g i) (l.getD i default)]
def uP(l:Y15)(g:Int->Bool):Nat->Y13
 |0=>[]
 |i+1=>uP l g i++ [rE l ((aD l).getD i 0) g (uP l g i) (l.getD i default)]
def rG(l:Y15)(g:Int->Option Iv):List Iv:=rP l g l.length
def uG(l:Y15)(g:Int->Bool):Y13:=uP l g l.length
theorem wN(l:Y15)(g:Int->Option Iv): ∀i,(rP l g i).length=i
 |0=>rfl
 |i+1=>by rw [rP,AI,wN l g i];rfl
theorem Ta(l:Y15)(g:Int->Bool): ∀i,(uP l g i).length=i
 |0=>rfl
 |i+1=>by rw [uP,AI,Ta l g i];rfl
theorem rS(l:Y15)(g:Int->Option Iv):(rG l g).length=l.length:=wN l g _
theorem a4Q(l:Y15)(g:Int->Bool):(uG l g).length=l.length:=Ta l g _
theorem a3Y(l:Y15)(g:Int->Option Iv)(i j:Nat):rP l g i<+:rP l g (i+j):=by
 induction j with
 |zero=>exact ES _
 |succ j ih=>exact ih.trans (by show _<+:rP l g (i+j)++_;exact DV _ _)
theorem a3X{α:Type}{l y:List α}{z:α}(h:l<+:y){q:Nat}(hq:q<l.length):y.getD q z=l.getD q z:=by
 obtain⟨t,rfl⟩:=h;simp only [AH];rw [BM hq]
theorem Bw{α:Type}{l:List α}{z:α}{i q:Nat}(h:q<i):(l.take i).getD q z=l.getD q z:=by
 simp only [AH];rw [DF h]
theorem bO{α:Type}{l:List α}{z:α}{q:Nat}(h:q<l.length):l.getD q z=l[q]:=by
 rw [AH,AB h];rfl
theorem a7E{l:Y15}{i:Nat}(y:i<l.length)(h:(aD l).getD i 0≠0):(∀q∈l[i].ks,0<=q/\q<i/\(aD l).getD q.toNat 0≠0)/\(aD l).getD i 0=bW (eK l l[i]) l[i].op l[i].im (l[i].ks.map λq=>(aD l).getD q.toNat 0):=by
 have e:=zK (AB y);unfold cH at e;split at e
 .rename_i u;have j: ∀q∈l[i].ks,0<=q/\q<i/\(aD (l.take i)).getD q.toNat 0≠0:=λq g=>by
   have:=G8 (CF.1 u q g);rw [bA,AW]at this;exact⟨this.1,JZ,this.2.2⟩
  have m: ∀q∈l[i].ks,(aD (l.take i)).getD q.toNat 0=(aD l).getD q.toNat 0:=λq g=>by
   have:=j q g;exact(I8 (pP (GZ i l)) (by rw [bA,AW];omega)).symm
  have hm:(l[i].ks.map λq=>(aD (l.take i)).getD q.toNat 0)=l[i].ks.map λq=>(aD l).getD q.toNat 0:=FT m
  refine⟨λq g=>⟨(j q g).1,(j q g).2.1,by rw [<-m q g];exact(j q g).2.2⟩,?_⟩;rw [e,hm];refine Ey λh3=>?_
  unfold eK
  have:l[i].ks≠[]:=λh0=>by rw [h0]at h3;cases h3
  have g:l[i].ks.getD 0 0∈l[i].ks:=by
   match hk:l[i].ks,this with
   |a::r,_=>exact BG
  have:=j _ g;rw [sN JZ]
 .exact absurd e h
theorem c0W{op g:Int}{k:Y12}(h:gN op g k≠0):vP op=true/\(k.length:Int)=ar op/\jQ op g=true:=by
 unfold gN at h;split at h
 .exact absurd rfl h
 .rename_i c;simp only [not_or,Bool.not_eq_false,ne_eq,Decidable.not_not]at c;exact c
structure LpOk(l:Y15)(i:Nat):Prop where
 lt:i<l.length
 ks: ∀q∈ (l.getD i default).ks,0<=q/\q<i/\(aD l).getD q.toNat 0≠0
 op:(l.getD i default).op=31
 im:0<=(l.getD i default).im/\(l.getD i default).im<=15
 odd:(l.getD i default).ks.length%2=1/\3<=(l.getD i default).ks.length/\(l.getD i default).ks.length<=33
 ss:((l.getD i default).ks.map λq=>(aD l).getD q.toNat 0)=lsL ((l.getD i default).ks.length/2)
theorem gJ{l:Y15}{i:Nat}(h:(aD l).getD i 0=3):LpOk l i:=by
 have g:=Y0 h;have j:=g.1;obtain⟨h1,h2⟩:=a7E j JZ;rw [h]at h2;obtain⟨h3,h4⟩:=Ew h2.symm;have m:=sG h4;rw [AX]at m;rw [bO j]at g;refine⟨j,?_,?_,?_,?_,?_⟩
 all_goals rw [bO j]
 .exact h1
 .exact h3
 .unfold bW at h2;rw [if_pos h3]at h2;split at h2
  .rename_i c;have:=c.2;unfold jQ at this;rw [decide_eq_true_eq]at this;have e:Ab 31=15:=KA;omega
  .omega
 .exact⟨m.1,g.2⟩
 .exact m.2.2.2
theorem mY{l:Y15}{i:Nat}(u:i<l.length)(h:(aD l).getD i 0=1):(∀q∈l[i].ks,0<=q/\q<i/\(aD l).getD q.toNat 0≠0)/\
  ((l[i].op=25/\∃q:Int,l[i].ks=[q]/\(0<=q/\q<i)/\(aD l).getD q.toNat 0=3/\1<=l[i].im/\l[i].im<=15/\2*l[i].im+3<=((l.getD q.toNat default).ks.length:Int)) \/
   (l[i].op≠25/\l[i].op≠30/\l[i].op≠31/\(l[i].ks.length:Int)=ar l[i].op/\jQ l[i].op l[i].im=true)):=by
 obtain⟨h1,h2⟩:=a7E u JZ;refine⟨h1,?_⟩;rw [h]at h2;unfold bW at h2;split at h2
 .split at h2<;>omega
 split at h2
 .split at h2<;>omega
 split at h2
 .rename_i m j g;split at h2
  .rename_i c;have y:l[i].ks.length=1:=by have:=congrArg List.length c.1;rw [AX]at this;exact this
   match hk:l[i].ks,y with
   | [q],_=>
    have r:=h1 q (by rw [hk];exact BG);rw [hk]at c;have e:eK l l[i]=(l.getD q.toNat default).ks.length:=by unfold eK;rw [hk];rfl
    rw [e]at c;have z:(aD l).getD q.toNat 0=3:=by
     have:=c.1;rw [BN,DT,BE]at this;exact this.1
    refine .inl ⟨g,q,rfl,⟨r.1,r.2.1⟩,z,?_,c.2.2.1,c.2.2.2⟩;split at h2
    .omega
    .have:=c.2.1;omega
  .omega
 .rename_i m j g;have:=c0W (show gN l[i].op l[i].im _≠0 by rw [<-h2];decide);rw [AX]at this;exact .inr ⟨g,j,m,this.2.1,this.2.2⟩
theorem a4T{l:Y15}{i:Nat}(g:i<l.length)(h:(aD l).getD i 0=1):nk l[i].op<=l[i].ks.length:=by
 rcases(mY g h).2 with⟨o,_⟩| ⟨j,m,r,h1,_⟩
 .unfold nk;rw [if_neg JZ,if_neg JZ,if_neg JZ];exact AR _
 .unfold ar at h1;unfold nk
  split
  .rw [if_neg JZ,if_neg JZ,if_pos JZ]at h1;omega
  split
  .rw [if_neg JZ,if_pos JZ]at h1;omega
  split
  .rw [if_neg JZ,if_neg JZ,if_neg JZ,if_pos JZ]at h1;omega
  .exact AR _
theorem V1{l:Y12}{j:Nat}{z:Int}(h:j<l.length):l.getD j z∈l:=by rw [bO h];exact AG h
theorem Z9{l:Y15}{q j:Nat}(h:LpOk l q)(i:j< (l.getD q default).ks.length/2):(0<=(aX (l.getD q default) j).f/\(aX (l.getD q default) j).f<q)/\(0<=(aX (l.getD q default) j).n/\(aX (l.getD q default) j).n<q)/\(0<=(aX (l.getD q default) j).d/\(aX (l.getD q default) j).d<q):=by
 have h2:=h.odd;have g: ∀m,m< (l.getD q default).ks.length->0<=(l.getD q default).ks.getD m 0/\(l.getD q default).ks.getD m 0<q:=λm hm=>by
  have:=h.ks _ (V1 (z:=0) hm);exact⟨this.1,this.2.1⟩
 exact⟨g _ JZ,g _ JZ,g _ JZ⟩
theorem b1G{R S:List Iv}{n:Nd}{i:Nat}(hk: ∀q∈n.ks,0<=q/\q<i)(l:nk n.op<=n.ks.length)(h: ∀q,q<i->R.getD q (0,0)=S.getD q (0,0)):Bb R n=Bb S n:=by
 have g: ∀j,j<n.ks.length->R.getD (n.ks.getD j 0).toNat (0,0)=S.getD (n.ks.getD j 0).toNat (0,0):=λj m=>by
  have:=hk _ (V1 (z:=0) m);exact h _ JZ
 unfold nk at l;unfold Bb
 split
 .rfl
 split
 .rw [if_neg JZ,if_neg JZ,if_pos JZ]at l;rw [g 0 JZ,g 1 JZ,g 2 JZ]
 split
 .rw [if_neg JZ,if_pos JZ]at l;rw [g 0 JZ]
 split
 .rw [if_pos JZ]at l;rw [g 0 JZ,g 1 JZ]
 .rfl
theorem Ov{l:Y15}{i:Nat}(u:i<l.length){y:Int->Option Iv}{R S:List Iv}(h: ∀q,q<i->R.getD q (0,0)=S.getD q (0,0)):nR l ((aD l).getD i 0) y R l[i]=nR l ((aD l).getD i 0) y S l[i]:=by
 unfold nR
 by_cases hs:(aD l).getD i 0=1
 .rw [if_neg (show¬ ((aD l).getD i 0≠1)from λc=>c hs),if_neg (show¬ ((aD l).getD i 0≠1)from λc=>c hs)];obtain⟨h1,h2⟩:=mY u hs;split
  .rfl
  split
  .rename_i r;rcases h2 with⟨_,q,e,g,h3,z,A,D⟩| ⟨m,_⟩
   .have hk:mP l l[i]=l.getD q.toNat default:=by unfold mP;rw [e];rfl
    have ho:=(gJ h3).odd;obtain⟨a,b,_⟩:=Z9 (j:=l[i].im.toNat) (gJ h3) JZ;rw [hk];unfold gR
    rw [h _ JZ,h _ JZ]
   .exact absurd r m
  .exact b1G (i:=i) (λq g=>⟨(h1 q g).1,(h1 q g).2.1⟩) (a4T u hs) h
 .rw [if_pos (show(aD l).getD i 0≠1 from hs),if_pos (show(aD l).getD i 0≠1 from hs)]
theorem b2Z{l:Y15}{i:Nat}(j:i<l.length){g:Int->Bool}{U V:Y13}(h: ∀q,q<i->U.getD q false=V.getD q false):rE l ((aD l).getD i 0) g U l[i]=rE l ((aD l).getD i 0) g V l[i]:=by
 grind [rE,aD,mY,mP,gJ,Z9,gU,EB,CC,BG]
theorem e9A{l:Y15}{g:Int->Option Iv}{i:Nat}(j:i<l.length):(rG l g).getD i (0,0)=nR l ((aD l).getD i 0) g (rG l g) l[i]:=by
 have m:rP l g (i+1)<+:rG l g:=by
  have:=a3Y l g (i+1) (l.length- (i+1))
  rwa [show i+1+(l.length- (i+1))=l.length by omega]at this
 have u:rP l g i<+:rG l g:=(by have:=a3Y l g i 1;exact this:rP l g i<+:rP l g (i+1)).trans m;rw [a3X m (by rw [wN];omega),rP,AH,BC (by rw [wN];exact AF _),wN,JU,bO j];exact Ov j λq r=>(a3X u (by rw [wN];exact r)).symm
def E5(x:LV):Y14:=[.int .i64 x.v,.int .i64 x.f,.int .i64 x.n,.int .i64 x.d]
def cL(p:Int×Iv):Y14:=[.int .i64 p.1,.int .i64 p.2.1,.int .i64 p.2.2]
def eI(r:Iv):IV:= .agg [.int .i64 r.1,.int .i64 r.2]
def eV(x:LV):IV:= .agg [.int .i64 x.v,.int .i64 x.f,.int .i64 x.n,.int .i64 x.d]
def Et(n:Nd):List LV:=(List.range (n.ks.length/2-1)).map λj=>aX n (j+1)
def vK(l:Y15):Nat->Int->Bool
 |0,_=>false
 |i+1,v=>vK l i v|| (decide ((aD l).getD i 0=3) &&decide ((l.getD i default).im=v))
def Br(l:Y15):Nat->List LV
 |0=>[]
 |i+1=>Br l i++(if(aD l).getD i 0=3/\vK l i (l.getD i default).im=false then Et (l.getD i default)else [])
def aI(l:Y15):List LV:=Br l l.length
def Keep.sbC(l:Y15)(i:Nat):Y14:=(List.range 16).map λ(v:Nat)=>IV.bool (vK l i (v:Int))
theorem Sv(l:Y15)(i:Nat):(Keep.sbC l i).length=16:=by unfold Keep.sbC;rw [AX,EK]
theorem X7{l:Y15}{i v:Nat}(h:v<16):(Keep.sbC l i)[v]?=some (.bool (vK l i (v:Int))):=by
 unfold Keep.sbC
 rw [BJ,FU h];rfl
theorem d0Y{l:Y15}{i v:Nat}(h3:(aD l).getD i 0=3)(g:(l.getD i default).im=(v:Int))(h:v<16):(Keep.sbC l i).take v++ [IV.bool true]++(Keep.sbC l i).drop (v+1)=Keep.sbC l (i+1):=by
 refine DE λj=>?_
 have m:=Sv l i;rcases HX j v with c|c|c
 .rw [BV,BM (by rw [AW];omega),DF c,X7 JZ,X7 JZ,vK,h3,g];rw [decide_eq_false (show¬ ((v:Int)=(j:Int)) by omega),EQ,DA]
 .subst c;rw [BV,BC (by rw [AW];omega),AW,show j-min j (Keep.sbC l i).length=0 by omega,X7 h,vK,h3,g];simp
 .rw [BC (by simp;omega)];have:(List.take v (Keep.sbC l i)++ [IV.bool true]).length=v+1:=by simp;omega
  rw [this,DS,show v+1+(j- (v+1))=j by omega];rcases BK j 16 with q|q
  .rw [X7 q,X7 q,vK,h3,g,decide_eq_false (show¬ ((v:Int)=(j:Int)) by omega),EQ,DA]
  .rw [BP JZ,BP (by rw [Sv];exact q)]
theorem wR{l:Y15}{i:Nat}(h: ¬ ((aD l).getD i 0=3/\vK l i (l.getD i default).im=false)):vK l (i+1)=vK l i/\Br l (i+1)=Br l i:=by
 refine⟨funext λv=>?_,by rw [Br,if_neg h,CZ]⟩;rw [vK]
 by_cases h3:(aD l).getD i 0=3
 .by_cases hv:(l.getD i default).im=v
  .have:vK l i (l.getD i default).im=true:=by
    cases e:vK l i (l.getD i default).im
    .exact absurd ⟨h3,e⟩ h
    .rfl
   rw [<-hv,this,FM]
  .rw [decide_eq_false hv,EQ,DA]
 .rw [decide_eq_false h3,CN,DA]
theorem Yd{l:Y15}{i:Nat}(h: ¬ ((aD l).getD i 0=3/\vK l i (l.getD i default).im=false)):Keep.sbC l (i+1)=Keep.sbC l i:=by
 unfold Keep.sbC
 rw [(wR h).1]
def C9(n:Nd)(j:Nat):List LV:=(List.range (j-1)).map λq=>aX n (q+1)
theorem Ns{n:Nd}{j:Nat}(h:1<=j):C9 n (j+1)=C9 n j++ [aX n j]:=by
 unfold C9
 rw [show j+1-1=(j-1)+1 by omega,List.range_succ,BY,JV,show j-1+1=j by omega]
theorem Wm{l:Y15}{i:Nat}(h:(aD l).getD i 0=3/\vK l i (l.getD i default).im=false):Br l (i+1)=Br l i++C9 (l.getD i default) ((l.getD i default).ks.length/2):=by
 rw [Br,if_pos h];rfl
theorem a3Q(l:Y15): ∀i:Nat,(Br l i).length<=16*i:=λi=>by
 induction i with
 |zero=>exact AF _
 |succ i ih=>
  rw [Br,AI];split
  .rename_i c;have h1:(Et (l.getD i default)).length=(l.getD i default).ks.length/2-1:=by unfold Et;rw [AX,EK]
   have h2:=(gJ c.1).odd;omega
  .rw [BL];omega
theorem Oq: ∀L:List LV,aQ (L.flatMap E5)=true
 | []=>rfl
 |x::r=>by
  rw [BF,bF,Oq r,AN];rfl
theorem yY: ∀L:List (Int×Iv),(L.flatMap cL).length=L.length*3
 | []=>rfl
 |r::R=>by
  rw [BF,AI,yY R,AS];show 3+_=_;omega
theorem eY: ∀L:List (Int×Iv),aQ (L.flatMap cL)=true
 | []=>rfl
 |x::r=>by
  rw [BF,bF,eY r,AN];rfl
theorem iO: ∀{L:List LV}{i:Nat}(h:i<L.length)(j:Nat),j<4->(L.flatMap E5)[i*4+j]?=(E5 L[i])[j]?
 |x::r,0,_,j,hj=>by
  rw [BF,BM (by show 0*4+j<4;omega)];simp
 |x::r,i+1,h,j,hj=>by
  rw [BF,BC (by show 4<=(i+1)*4+j;omega)];have:(i+1)*4+j- (E5 x).length=i*4+j:=by show(i+1)*4+j-4=_;omega
  rw [this,iO (by simpa using h) j hj];rfl
theorem gA: ∀{L:List (Int×Iv)}{i:Nat}(h:i<L.length)(j:Nat),j<3->(L.flatMap cL)[i*3+j]?=(cL L[i])[j]?
 |x::r,0,_,j,hj=>by
  rw [BF,BM (by show 0*3+j<3;omega)];simp
 |x::r,i+1,h,j,hj=>by
  rw [BF,BC (by show 3<=(i+1)*3+j;omega)];have:(i+1)*3+j- (cL x).length=i*3+j:=by show(i+1)*3+j-3=_;omega
  rw [this,gA (by simpa using h) j hj];rfl
abbrev dW:=List (Int×Iv)
def kSI(C:List (Int×Iv))(k:Int):Option Iv:=match C.find? (λp=>decide (p.1=k))with
 |some p=>if p.2.1<=p.2.2 then some p.2 else none
 |none=>none
def fW(C:List (Int×Iv))(k:Int):Bool:=C.any λp=>decide (p.1=k)
theorem oZ(k:Int): ∀C:List (Int×Iv),(C.find? (λp=>decide (p.1=k))).isSome=fW C k
 | []=>rfl
 |p::r=>by
  have g:=oZ k r;unfold fW at g⊢;rw [EH,EB]
  cases decide (p.1=k)
  .rw [EA,<-g]
  .rfl
theorem Wc(C:List (Int×Iv))(p:Int×Iv)(k:Int):kSI (C++ [p]) k=if fW C k=true then kSI C k else if p.1=k/\p.2.1<=p.2.2 then some p.2 else none:=by
 unfold kSI
 rw [FI,<-oZ]
 cases h:C.find? (λp=>decide (p.1=k))with
 |some q=>rfl
 |none=>
  rw [Option.none_or,EH];simp only [DD,BA,if_false]
  by_cases e:p.1=k
  .rw [decide_eq_true e];simp only [e,true_and]
  .rw [decide_eq_false e];simp only [e,false_and,if_false];rfl
theorem V2(C:List (Int×Iv))(p:Int×Iv)(k:Int):fW (C++ [p]) k=(fW C k||decide (p.1=k)):=by
 unfold fW
 rw [DO];simp
theorem Wa{C:List (Int×Iv)}{k:Int}(h:fW C k=false):kSI C k=none:=by
 rw [<-oZ]at h;unfold kSI
 cases e:C.find? (λp=>decide (p.1=k))with
 |none=>rfl
 |some q=>rw [e]at h;cases h
theorem b9R{C:List (Int×Iv)}{p:Int×Iv}{i:List (Int×Iv)}(h: ∀k,qY k i=kSI C k)(g:fW C p.1=true\/ ¬p.2.1<=p.2.2): ∀k,qY k i=kSI (C++ [p]) k:=λk=>by
 rw [h,Wc]
 cases e:fW C k
 .rw [if_neg KA,Wa e,if_neg];rintro⟨rfl,q⟩;rcases g with g|g
  .rw [g]at e;cases e
  .exact g q
 .rw [if_pos rfl]
theorem b1I{C:List (Int×Iv)}{p:Int×Iv}{g:List (Int×Iv)}(h: ∀k,qY k g=kSI C k)(h1:fW C p.1=false)(h2:p.2.1<=p.2.2): ∀k,qY k (Lt p.1 p.2 g)=kSI (C++ [p]) k:=λk=>by
 rw [uN,h,Wc]
 by_cases e:k=p.1
 .rw [if_pos e,e,h1,if_neg KA,if_pos ⟨rfl,h2⟩]
 .rw [if_neg e]
  cases e2:fW C k
  .rw [if_neg KA,Wa e2,if_neg (λq=>e q.1.symm)]
  .rw [if_pos rfl]
theorem zD{C:List (Int×Iv)}{p:Int×Iv}{g:List (Int×Bool)}(h: ∀k,qY k g=if fW C k=true then some true else none): ∀k,qY k (Lt p.1 true g)=if fW (C++ [p]) k=true then some true else none:=λk=>by
 rw [uN,h,V2]
 by_cases e:k=p.1
 .rw [if_pos e,decide_eq_true e.symm,GH,if_pos rfl]
 .rw [if_neg e,decide_eq_false (λq=>e q.symm),DA]
def Tb(n:Int)(s:Bool):Iv×Bool:=if s=true/\n=dH then((0,0),false)else((dH,n- (if s=true then 1 else 0)),true)
def Qo(n:Int)(s:Bool):Iv×Bool:=if s=true/\n=dN then((0,0),false)else((n+(if s=true then 1 else 0),dN),true)
def Vs(q w:Iv):Iv×Bool:=(mM q.1 q.2 w.1 w.2,iS q.1 q.2 w.1 w.2)
def jL(l:Y15)(x:LV)(q:Iv)(R:List Iv):Iv×Bool:=
 if(l.getD x.d.toNat default).op≠17/\(l.getD x.d.toNat default).op≠18/\(l.getD x.d.toNat default).op≠19 then(q,true)
 else if(l.getD x.d.toNat default).op=19 then
  (if(l.getD x.d.toNat default).ks.getD 0 0≠x.n\/ (gR R ((l.getD x.d.toNat default).ks.getD 1 0)).1<0 then(q,true)else Vs q (0,IntKind.i64.wrap ((gR R ((l.getD x.d.toNat default).ks.getD 1 0)).2-1)))
 else if(l.getD x.d.toNat default).ks.getD 0 0=x.n then
  (if(Tb (gR R ((l.getD x.d.toNat default).ks.getD 1 0)).2 ((l.getD x.d.toNat default).op==17)).2=true then Vs q (Tb (gR R ((l.getD x.d.toNat default).ks.getD 1 0)).2 ((l.getD x.d.toNat default).op==17)).1 else((0,0),false))
 else if(l.getD x.d.toNat default).ks.getD 1 0=x.n then
  (if(Qo (gR R ((l.getD x.d.toNat default).ks.getD 0 0)).1 ((l.getD x.d.toNat default).op==17)).2=true then Vs q (Qo (gR R ((l.getD x.d.toNat default).ks.getD 0 0)).1 ((l.getD x.d.toNat default).op==17)).1 else((0,0),false))
 else(q,true)
def tY(g:Option Iv)(r:Nat)(y:Iv):Iv:=match g with
 |some o=>if 3<r then(wlo o.1 (min o.1 y.1),whi o.2 (max o.2 y.2))else y
 |none=>y
def joG(a:Option Iv)(y:Iv):Option Iv:=match a with
 |some o=>some (Vn o y)
 |none=>some y
def qU(l:Y15)(g:Int->Option Iv)(i:Int->Bool)(x:LV)(r:Nat):Option Iv:=
 let j1:=if gU (uG l i) x.f=true then g x.v else joG (g x.v) (tY (g x.v) r (gR (rG l g) x.f))
 if gU (uG l i) x.n=true then j1
 else
  let p:=if r<=12/\gU (uG l i) x.d=false then jL l x (tY (g x.v) r (gR (rG l g) x.n)) (rG l g)else(tY (g x.v) r (gR (rG l g) x.n),true)
  if p.2=true then joG j1 p.1 else j1
def oT(l:Y15)(g:Int->Option Iv)(i:Int->Bool)(x:LV)(r:Nat):Option Iv:=match qU l g i x r with
 |none=>none
 |some y=>if g x.v=some y then none else some y
def zL(vs:List LV)(g:Int->Option Iv)(v:Int):Bool:=vs.any (λx=>decide (x.v=v)) && (g v).isNone
def qT(g:Int->Option Iv)(v:Int)(r:Iv):Int->Option Iv:=λw=>if w=v then some r else g w
def Ga(l:Y15)(vs:List LV)(r:Nat)(a:(Int->Option Iv) ×Bool)(x:LV):(Int->Option Iv) ×Bool:=
 match qU l a.1 (zL vs a.1) x r with
 |none=>a
 |some y=>if a.1 x.v=some y then a else(qT a.1 x.v y,true)
def eT(l:Y15)(vs:List LV):Nat->(Int->Option Iv) ×Bool
 |0=>(λ_=>none,true)
 |n+1=>vs.foldl (Ga l vs (n+1)) ((eT l vs n).1,false)
def mW(vs:List LV)(g:Int->Option Iv):List (Int×Iv):=vs.filterMap λx=>(g x.v).map λr=>(x.v,r)
def OvS(g:Heap)(i:IV)(L:List LV):Prop:=(i= .nilslice/\L=[]) \/ ∃io,i= .vslice (some io) (L.length*4) L.length 4 (L.flatMap E5)/\g.get io= .tip (L.length*4)
theorem OvS.app{g:Heap}{L:List LV}{x:LV}{cs:Y14}{K:Nat->Nat->Nat->Y14->Heap->Prop}(h:OvS g s L)(i:cs=E5 x)(j:L.length<=2000000)(hk: ∀id e n c g2,OvS g2 (.vslice (some id) e n 4 c) (L++ [x])->K id e n c g2):dX g 4 32 s 1 cs K:=by
 grind [aW,aH,LV,OvS,E5,dX,AI,CI,AS,BL,BF,IP,CZ]
def KOk(g:Int->Option Iv):Prop:= ∀v r,g v=some r->r.1<=r.2/\cF r
theorem d9I{R:List Iv}{n:Nd}(A:aZ n.im)(m:nk n.op<=n.ks.length)(h: ∀j,j<n.ks.length->(R.getD (n.ks.getD j 0).toNat (0,0)).1<=(R.getD (n.ks.getD j 0).toNat (0,0)).2/\cF (R.getD (n.ks.getD j 0).toNat (0,0))):(Bb R n).1<=(Bb R n).2/\cF (Bb R n):=by
 have hf:dH<=dN/\cF (dH,dN):=⟨by unfold dH dN;omega,eX⟩;have y: ∀{r:Iv}{x:Int},jS r x->r.1<=r.2:=λq=>Int.le_trans q.1 q.2
 unfold nk at m;unfold Bb
 split
 .exact⟨DX _,A,A⟩
 split
 .rw [if_neg JZ,if_neg JZ,if_pos JZ]at m;obtain⟨l,g⟩:=h 0 JZ;obtain⟨u,i⟩:=h 1 JZ;obtain⟨D,z⟩:=h 2 JZ;exact⟨y (d0Z (DX _) l (DX _) u (DX _) D),b1F i.1 i.2 z.1 z.2⟩
 split
 .rename_i c;rw [if_neg JZ,if_pos JZ]at m;obtain⟨l,g⟩:=h 0 JZ;exact⟨y (f1S c (DX _) l g.1 g.2),b7X g.1 g.2⟩
 split
 .rename_i c;rw [if_pos JZ]at m;obtain⟨l,g⟩:=h 0 JZ;obtain⟨u,i⟩:=h 1 JZ;exact⟨y (d7I c (DX _) l (DX _) u g.1 g.2 i.1 i.2),b1E g.1 g.2 i.1 i.2⟩
 .exact hf
theorem b7V{a b:Iv}(g:a.1<=a.2/\cF a)(i:b.1<=b.2/\cF b):(Vn a b).1<=(Vn a b).2/\cF (Vn a b):=by
 unfold Vn cF aZ at*
 dsimp only;omega
theorem Ag{l:Y15}{g:Int->Option Iv}(D: ∀n∈l,aZ n.im)(hk:KOk g): ∀i,i<l.length->((rG l g).getD i (0,0)).1<=((rG l g).getD i (0,0)).2/\cF ((rG l g).getD i (0,0)):=by
 intro i
 induction i using Nat.strongRecOn with
 |ind i ih=>
  intro m;have hf:aJ.1<=aJ.2/\cF aJ:=⟨by show dH<=dN;unfold dH dN;omega,eX⟩;rw [e9A m];unfold nR
  by_cases hs:(aD l).getD i 0=1
  case neg=>rw [if_pos hs];exact hf
  rw [if_neg (show¬ ((aD l).getD i 0≠1)from λc=>c hs)];obtain⟨h1,h2⟩:=mY m hs;split
  .cases e:g l[i].im with
   |none=>exact hf
   |some r=>exact hk _ _ e
  split
  .rename_i y;rcases h2 with⟨_,q,e,G,h3,K,L,O⟩| ⟨u,_⟩
   .have hk:mP l l[i]=l.getD q.toNat default:=by unfold mP;rw [e];rfl
    have ho:=(gJ h3).odd;obtain⟨a,b,_⟩:=Z9 (j:=l[i].im.toNat) (gJ h3) JZ;rw [hk];exact b7V (ih _ JZ JZ) (ih _ JZ JZ)
   .exact absurd y u
  .refine d9I (D _ (AG m)) (a4T m hs) λj A=>?_
   have:=h1 _ (V1 (z:=0) A);exact ih _ JZ JZ
theorem d6M{l:Y15}{g:Int->Option Iv}{i q:Nat}(m:i<=l.length)(j:q<i):(rP l g i).getD q (0,0)=(rG l g).getD q (0,0):=by
 have:=a3Y l g i (l.length-i);rw [show i+(l.length-i)=l.length by omega]at this;exact(a3X this (by rw [wN];exact j)).symm
def IVg(l:Y15)(u:Int->Option Iv)(y:Int->Bool)(i:Nat)(g:Heap)(m r:Nat)(R:List Iv)(U:Y13)(h:Heap):Prop:=
 (i<=l.length/\R.length=l.length/\U.length=l.length/\R.take i=rP l u i/\U.take i=uP l y i/\∀q,i<=q->U.getD q false=false)/\
 (g.get m= .cells (R.flatMap cR)/\g.get r= .cells (U.map IV.bool))/\(h.next<=m/\h.next<=r/\m≠r/\m<g.next/\r<g.next)/\∀j,j<h.next->g.get j=h.get j
theorem X9{α:Type}{L:List α}{i q:Nat}{x z:α}(h:q≠i):(L.set i x).getD q z=L.getD q z:=by
 simp only [AH];rw [List.getElem?_set_ne JZ]
theorem IVg.step{l:Y15}{D:Int->Option Iv}{G:Int->Bool}{i:Nat}{g:Heap}{R:List Iv}{U:Y13}{h:Heap}(hv:IVg l D G i g m b R U h)(u:i<l.length){x r:Iv}{g2:Heap}{z:List Iv}{A:Y13}
  (eR:g2.get m= .cells (z.flatMap cR)) (eU:g2.get b= .cells (A.map IV.bool)) (h2R:z=R.set i r) (h2U:A=U.set i o) (er:r=nR l ((aD l).getD i 0) D (R.set i x) l[i]) (eu:o=rE l ((aD l).getD i 0) G U l[i]) (nx:g2.next=g.next) (fr: ∀j,j≠m->j≠b->g2.get j=g.get j):IVg l D G (i+1) g2 m b z A h:=by
 obtain⟨⟨a1,K,L,O,T,V⟩,⟨b1,b2⟩,⟨X,Y,Z,c4,c5⟩,d⟩:=hv;refine⟨⟨u,by rw [h2R,CM];exact K,by rw [h2U,CM];exact L,?_,?_,λq y=>?_⟩,⟨eR,eU⟩,⟨X,Y,Z,by rw [nx];exact c4,by rw [nx];exact c5⟩,λj hj=>(fr j JZ JZ).trans (d j hj)⟩
 .rw [h2R,rP,<-O,AO (by rw [CM];omega),JH,JQ (AF _),bO u,er]
  congr 2
  exact Ov u λq y=>by rw [X9 JZ,Bw y]
 .rw [h2U,uP,<-T,AO (by rw [CM];omega),JH,JQ (AF _),bO u,eu]
  congr 2
  exact b2Z u λq y=>by rw [Bw y]
 .rw [h2U,X9 JZ];exact V q JZ
theorem e3S{U:Y13}{i:Nat}{b:Bool}(h:i<U.length):(U.map IV.bool).take i++ [IV.bool b]++(U.map IV.bool).drop (i+1)=(U.set i b).map IV.bool:=by
 rw [DH,if_pos h,BY,BN,FA,FB,BV,HB]
theorem f6Y{U:Y13}{k:Nat}(h:k<U.length):(U.map IV.bool)[k]?=some (.bool U[k]):=by
 rw [BJ,AB h];rfl
theorem rM{R:List Iv}{q:Int}{o:Nat}{K:Int->Int->Prop}(h:0<=q/\q< (R.length:Int))(ho:o=q.toNat*2)(hk:K (gR R q).1 (gR R q).2):aN .i64 (R.flatMap cR) o λa=>aN .i64 (R.flatMap cR) (o+1) λb=>K a b:=by
 have g:q.toNat<R.length:=JZ;have e:gR R q=R[q.toNat]:=bO g;rw [e]at hk;exact ldR g ho hk
theorem H1{U:Y13}{q:Int}{o:Nat}{K:Bool->Prop}(h:0<=q/\q< (U.length:Int))(ho:o=q.toNat)(hk:K (gU U q)):kQ (U.map IV.bool) o K:=by
 grind [gU,bO,kS,f6Y,kQ]
theorem oP{ks:Y12}{j o:Nat}{K:Int->Prop}(h:j<ks.length)(ho:o=j)(hk:K (ks.getD j 0)):aN .i64 (ks.map (IV.int .i64)) o K:=by
 rw [bO h]at hk;exact aR (by rw [ho,BJ,AB h];rfl) hk
theorem f4B{ks:Y12}(h:ks.length=1)(p:Int->Bool):ks.any p=p (ks.getD 0 0):=by
 match ks,h with
 | [a],_=>simp
theorem f4C{ks:Y12}(h:ks.length=2)(p:Int->Bool):ks.any p=(p (ks.getD 0 0)||p (ks.getD 1 0)):=by
 match ks,h with
 | [a,b],_=>simp
theorem f4D{ks:Y12}(h:ks.length=3)(p:Int->Bool):ks.any p=(p (ks.getD 0 0)|| (p (ks.getD 1 0)||p (ks.getD 2 0))):=by
 match ks,h with
 | [a,b,c],_=>simp
theorem b2U{U:Y13}{i:Nat}(h:i<U.length)(e:U.getD i false=false):U.set i false=U:=by
 rw [bO h]at e;rw [<-e];exact JI h
def D3(h:Heap)(s w:Nat)(o:Option Iv):Prop:= ∃r:Iv,h.get w= .cells [.int .i64 r.1,.int .i64 r.2]/\h.get s= .cells [.bool o.isSome]/\∀q,o=some q->q=r
structure UpN where
 i5:Nat
 iR:Nat
 iU:Nat
 i9:Nat
 i10:Nat
 i11:Nat
 i12:Nat
def LvS(l:Y15)(f n d:Int):Prop:=(0<=f/\f<l.length)/\(0<=n/\n<l.length)/\(0<=d/\d<l.length/\(aD l).getD d.toNat 0=1)
structure UpS(l:Y15)(kn:Int->Option Iv)(un:Int->Bool)(v:Int)(r:Nat)(h g:Heap)(x:UpN)(b:Nat):Prop where
 R:g.get x.iR= .cells ((rG l kn).flatMap cR)
 U:g.get x.iU= .cells ((uG l un).map IV.bool)
 r5:g.get x.i5= .cells [.int .i64 (r:Int)]
 old:D3 g x.i10 x.i9 (kn v)
 ge:h.next<=x.iR/\h.next<=x.iU/\h.next<=x.i5/\h.next<=x.i9/\h.next<=x.i10
 lt:x.iR<b/\x.iU<b/\x.i5<b/\x.i9<b/\x.i10<b/\b<=g.next
 fr: ∀j,j<h.next->g.get j=h.get j
structure UpM(g:Heap)(x:UpN)(b:Nat)(o:Option Iv):Prop where
 now:D3 g x.i12 x.i11 o
 ge:b<=x.i11/\b<=x.i12/\x.i11<g.next/\x.i12<g.next/\x.i12≠x.i11
theorem D3.mono{h g:Heap}{s w:Nat}{o:Option Iv}(a:D3 h s w o)(m:g.get s=h.get s)(u:g.get w=h.get w):D3 g s w o:=by
 obtain⟨r,i,j,l⟩:=a;exact⟨r,u.trans i,m.trans j,l⟩
theorem UpS.mono{l:Y15}{m:Int->Option Iv}{u:Int->Bool}{v:Int}{r:Nat}{h g g2:Heap}{x:UpN}{b:Nat}(a:UpS l m u v r h g x b)(e: ∀j,j<b->g2.get j=g.get j)(n:g.next<=g2.next):UpS l m u v r h g2 x b:=by
 have i:=a.lt;have z:=a.ge;exact⟨(e _ i.1).trans a.R,(e _ i.2.1).trans a.U,(e _ i.2.2.1).trans a.r5,a.old.mono (e _ i.2.2.2.2.1) (e _ i.2.2.2.1),z,⟨i.1,i.2.1,i.2.2.1,i.2.2.2.1,i.2.2.2.2.1,CG i.2.2.2.2.2 n⟩,λj y=>(e j JZ).trans (a.fr j y)⟩
def Nm(l:Y15)(g:Int->Option Iv)(i:Int->Bool)(v f:Int)(r:Nat):Option Iv:=if gU (uG l i) f=true then g v else joG (g v) (tY (g v) r (gR (rG l g) f))
def Sq(l:Y15)(g:Int->Option Iv)(i:Int->Bool)(v f n d:Int)(r:Nat):Iv×Bool:=if r<=12/\gU (uG l i) d=false then jL l ⟨v,f,n,d⟩ (tY (g v) r (gR (rG l g) n)) (rG l g)else(tY (g v) r (gR (rG l g) n),true)
theorem c4H(l:Y15)(i:Int->Option Iv)(g:Int->Bool)(v f n d:Int)(r:Nat):qU l i g ⟨v,f,n,d⟩ r=if gU (uG l g) n=true then Nm l i g v f r else if(Sq l i g v f n d r).2=true then joG (Nm l i g v f r) (Sq l i g v f n d r).1 else Nm l i g v f r:=rfl
def I4(g:Heap)(a b:Int)(s:Bool):Heap:=(((((g.push .free).push .free).set g.next (.cells [.int .i64 0,.int .i64 0])).set (g.next+1) (.cells [.bool false])).set g.next (.cells [.int .i64 a,.int .i64 b])).set (g.next+1) (.cells [.bool s])
theorem I5{g:Heap}{a b:Int}{s:Bool}{j:Nat}(h:j<g.next):(I4 g a b s).get j=g.get j:=by
 unfold I4
 rw [aG JZ,aG JZ,aG JZ,aG JZ,aO (show j< (g.push .free).next from BO h),aO h]
theorem e1Y{g:Heap}{a b:Int}{s:Bool} :(I4 g a b s).get g.next= .cells [.int .i64 a,.int .i64 b]:=by
 unfold I4
 rw [aG JZ,aH]
theorem e1X{g:Heap}{a b:Int}{s:Bool} :(I4 g a b s).get (g.next+1)= .cells [.bool s]:=aH
theorem Xs{g:Heap}{o:Option Iv}{r:Iv}(h: ∀q,o=some q->q=r):D3 (I4 g r.1 r.2 o.isSome) (g.next+1) g.next o:=⟨r,e1Y,e1X,h⟩
theorem e1A{m j:Nat}(h1:1<=m)(g:1<=j/\j<2*m+1/\j≠m+1):(lsL m).getD j 0=1:=by
 obtain⟨h2,h3,h4⟩:=g;unfold lsL
 rw [AH,show j=(j-1)+1 by omega,GJ];rcases BK (j-1) m with c|c
 .rw [BM (by rw [DR];exact c),HJ c];rfl
 .rw [BC (by rw [DR];exact c),DR,show j-1-m=(j-m-2)+1 by omega,GJ,HJ JZ];rfl
theorem LpOk.at{l:Y15}{i:Nat}(h:LpOk l i){j:Nat}(g:1<=j/\j< (l.getD i default).ks.length/\j≠(l.getD i default).ks.length/2+1):(aD l).getD ((l.getD i default).ks.getD j 0).toNat 0=1:=by
 have ho:=h.odd;have e:=congrArg (λx=>x.getD j 0) h.ss;rw [e1A JZ ⟨g.1,JZ,g.2.2⟩]at e;rw [<-e,AH (l:=List.map _ _),BJ,AB g.2.1,bO g.2.1];rfl
theorem Sl{l:Y15} : ∀{i:Nat}{x:LV},x∈Br l i-> ∃q j,q<i/\(aD l).getD q 0=3/\vK l q (l.getD q default).im=false/\(1<=j/\j< (l.getD q default).ks.length/2)/\x=aX (l.getD q default) j
 |0,x,h=>by cases h
 |i+1,x,h=>by
  rw [Br]at h;rcases BZ.1 h with h|h
  .obtain⟨q,j,a,b⟩:=Sl h;exact⟨q,j,JZ,b⟩
  .split at h
   .rename_i c;unfold Et at h;obtain⟨j,g,rfl⟩:=DU.1 h;rw [EO]at g;exact⟨i,j+1,JZ,c.1,c.2,⟨JZ,JZ⟩,rfl⟩
   .cases h
theorem W6{l:Y15}{x:LV}(h:x∈aI l):LvS l x.f x.n x.d:=by
 obtain⟨q,j,h1,h2,_,⟨h3,h4⟩,rfl⟩:=Sl h;have g:=gJ h2;obtain⟨a,b,c⟩:=Z9 g h4;have ho:=g.odd;refine⟨⟨a.1,JZ⟩,⟨b.1,JZ⟩,⟨c.1,JZ,?_⟩⟩;have e:((l.getD q default).ks.length-1)/2=(l.getD q default).ks.length/2:=JZ;have:=g.at (j:=(l.getD q default).ks.length/2) ⟨JZ,JZ,JZ⟩;rw [<-e]at this;exact this
def Sm(r:Iv):Prop:=r.1<=r.2/\cF r
theorem d6X{o:Option Iv}{r:Nat}{y:Iv}(h: ∀q,o=some q->Sm q)(g:Sm y):Sm (tY o r y):=by
 unfold tY
 cases o with
 |none=>exact g
 |some q=>
  have:=h q rfl;dsimp only;split
  .unfold Sm cF aZ wlo whi at*
   dsimp only;split<;>split<;>omega
  .exact g
theorem d4T{o:Option Iv}{y:Iv}(h: ∀q,o=some q->Sm q)(i:Sm y): ∀q,joG o y=some q->Sm q:=by
 intro q g;unfold joG at g
 cases o with
 |none=>rw [<-Option.some.inj g];exact i
 |some z=>rw [<-Option.some.inj g];exact b7V (h z rfl) i
theorem a1Y{q w:Iv}(g:cF q)(i:cF w)(h:(Vs q w).2=true):Sm (Vs q w).1:=by
 unfold Vs at*
 dsimp only at*
 unfold mM
 rw [if_pos h];unfold iS at h;rw [decide_eq_true_eq]at h;unfold Sm cF aZ at*
 dsimp only at*
 omega
theorem d1L{n:Int}{s:Bool}(h:aZ n):cF (Tb n s).1:=by
 unfold Tb
 split
 .unfold cF aZ;dsimp only;omega
 .rename_i c;have m:dH= -9223372036854775808:=rfl;unfold cF aZ at*
  dsimp only
  cases s
  .simp only [BA,if_false];omega
  .simp only [if_true,true_and]at c⊢;omega
theorem c7X{n:Int}{s:Bool}(h:aZ n):cF (Qo n s).1:=by
 unfold Qo
 split
 .unfold cF aZ;dsimp only;omega
 .rename_i c;have m:dN=9223372036854775807:=rfl;unfold cF aZ at*
  dsimp only
  cases s
  .simp only [BA,if_false];omega
  .simp only [if_true,true_and]at c⊢;omega
theorem e2F{l:Y15}{x:LV}{q:Iv}{R:List Iv}(r:R.length=l.length)(m: ∀i,i<l.length->Sm (R.getD i (0,0)))(j:Sm q)(h:(jL l x q R).2=true):Sm (jL l x q R).1:=by
 have g: ∀k,cF (gR R k):=λk=>by
  unfold gR
  rcases BK k.toNat l.length with c|c
  .exact(m _ c).2
  .rw [AH,BP JZ];unfold cF aZ
   decide
 unfold jL at h⊢;split at h
 .rename_i c;rw [if_pos c];exact j
 rename_i c;rw [if_neg c];split at h
 .rename_i c;rw [if_pos c];split at h
  .rename_i c;rw [if_pos c];exact j
  .rename_i c;rw [if_neg c];exact a1Y j.2 ⟨by unfold aZ;omega,bZ _⟩ h
 rename_i c;rw [if_neg c];split at h
 .rename_i c;rw [if_pos c];split at h
  .rename_i c;rw [if_pos c];exact a1Y j.2 (d1L (g _).2) h
  .cases h
 rename_i c;rw [if_neg c];split at h
 .rename_i c;rw [if_pos c];split at h
  .rename_i c;rw [if_pos c];exact a1Y j.2 (c7X (g _).1) h
  .cases h
 .rename_i c;rw [if_neg c];exact j
theorem Gd{l:Y15}(u: ∀n∈l,aZ n.im){j:Int->Option Iv}{m:Int->Bool}(hk:KOk j){x:LV}(z:LvS l x.f x.n x.d){r:Nat} : ∀y,qU l j m x r=some y->Sm y:=by
 have g: ∀k:Int,0<=k/\k<l.length->Sm (gR (rG l j) k):=λk h=>Ag u hk k.toNat JZ
 have h1: ∀y,Nm l j m x.v x.f r=some y->Sm y:=by
  unfold Nm
  split
  .exact λy=>hk x.v y
  .exact d4T (λq=>hk x.v q) (d6X (λq=>hk x.v q) (g _ z.1))
 have h2:(Sq l j m x.v x.f x.n x.d r).2=true->Sm (Sq l j m x.v x.f x.n x.d r).1:=by
  have w:Sm (tY (j x.v) r (gR (rG l j) x.n)):=d6X (λq=>hk x.v q) (g _ z.2.1);unfold Sq
  split
  .intro h;exact e2F (rS l j) (λi A=>Ag u hk i A) w h
  .exact λ_=>w
 intro y D;have e:=c4H l j m x.v x.f x.n x.d r;rw [show qU l j m ⟨x.v,x.f,x.n,x.d⟩ r=some y from D]at e;split at e
 .exact h1 y e.symm
 split at e
 .rename_i c;exact d4T h1 (h2 c) y e.symm
 .exact h1 y e.symm
theorem KOk.set{g:Int->Option Iv}(h:KOk g){v:Int}{y:Iv}(i:Sm y):KOk (qT g v y):=by
 intro w r e;unfold qT at e;split at e
 .rw [<-Option.some.inj e];exact i
 .exact h w r e
theorem J6{l:Y15}{vs:List LV}{r:Nat}{a:(Int->Option Iv) ×Bool}{x:LV}(h:oT l a.1 (zL vs a.1) x r=none):Ga l vs r a x=a:=by
 unfold oT at h;unfold Ga
 cases e:qU l a.1 (zL vs a.1) x r with
 |none=>rfl
 |some y=>
  rw [e]at h;dsimp only at h⊢;split at h
  .rename_i c;rw [if_pos c]
  .cases h
theorem J7{l:Y15}{vs:List LV}{r:Nat}{a:(Int->Option Iv) ×Bool}{x:LV}{y:Iv}(h:oT l a.1 (zL vs a.1) x r=some y):Ga l vs r a x=(qT a.1 x.v y,true)/\qU l a.1 (zL vs a.1) x r=some y/\a.1 x.v≠some y:=by
 unfold oT at h;unfold Ga
 cases e:qU l a.1 (zL vs a.1) x r with
 |none=>rw [e]at h;cases h
 |some z=>
  rw [e]at h;dsimp only at h⊢;split at h
  .cases h
  .rename_i c;obtain rfl:=AV h;rw [if_neg c];exact⟨rfl,rfl,c⟩
theorem e3W{l:Y15}(j: ∀n∈l,aZ n.im){vs:List LV}{r:Nat}{a:(Int->Option Iv) ×Bool}{x:LV}(m:LvS l x.f x.n x.d)(h:KOk a.1):KOk (Ga l vs r a x).1:=by
 cases e:oT l a.1 (zL vs a.1) x r with
 |none=>rw [J6 e];exact h
 |some y=>
  obtain⟨g,i,_⟩:=J7 e;rw [g];exact h.set (Gd j h m y i)
theorem Bn{l:Y15}(g: ∀n∈l,aZ n.im){vs:List LV}{r:Nat} : ∀(L:List LV)(a:(Int->Option Iv) ×Bool),(∀x∈L,LvS l x.f x.n x.d)->KOk a.1->KOk (L.foldl (Ga l vs r) a).1
 | [],a,_,h=>h
 |x::L,a,hx,h=>Bn g L _ (λy i=>hx y (CC _ i)) (e3W g (hx x BG) h)
theorem b4F:KOk (λ_=>none):=λv r h=>by cases h
theorem St{l:Y15}(g: ∀n∈l,aZ n.im): ∀n,KOk (eT l (aI l) n).1
 |0=>b4F
 |n+1=>Bn g _ _ (λx i=>W6 i) (St g n)
def ptI(o:Option Iv):Nat:=match o with
 |none=>3
 |some r=>(if r.1=dH then 0 else 1)+(if r.2=dN then 0 else 1)
def pot(vs:List LV)(g:Int->Option Iv):Nat:=(vs.map λx=>ptI (g x.v)).sum
theorem e2B(o:Option Iv):ptI o<=3:=by
 unfold ptI
 split
 .exact AF _
 .split<;>split<;>omega
theorem c2W: ∀(vs:List LV)(g:Int->Option Iv),pot vs g<=3*vs.length
 | [],g=>AF _
 |x::r,g=>by
  have:=c2W r g;have:=e2B (g x.v);unfold pot at*
  rw [BN,JL,AS];omega
theorem a8U{g:Int->Option Iv}{v:Int}{y:Iv}(h:ptI (some y)<ptI (g v)): ∀vs:List LV,pot vs (qT g v y)<=pot vs g/\((∃x∈vs,x.v=v)->pot vs (qT g v y)<pot vs g)
 | []=>⟨AF _,λ⟨x,l,_⟩=>by cases l⟩
 |x::r=>by
  obtain⟨h1,h2⟩:=a8U h r;unfold pot at*
  rw [BN,BN,JL,JL];have e:ptI (qT g v y x.v)<=ptI (g x.v)/\(x.v=v->ptI (qT g v y x.v)<ptI (g x.v)):=by
   unfold qT
   split
   .rename_i c;rw [c];exact⟨Nat.le_of_lt h,λ_=>h⟩
   .rename_i c;exact⟨AF _,λq=>absurd q c⟩
  refine⟨JZ,λ⟨z,i,j⟩=>?_⟩;rcases CD.1 i with rfl|i
  .have:=e.2 j;omega
  .have:=h2 ⟨z,i,j⟩;omega
theorem c4I{l:Y15}{g:Int->Option Iv}{j:Int->Bool}{x:LV}{r:Nat}(G:12<r){o y:Iv}(ho:g x.v=some o)(h:qU l g j x r=some y):(y.1=o.1\/y.1=dH)/\(y.2=o.2\/y.2=dN):=by
 have W: ∀z:Iv,(((tY (some o) r z).1=o.1\/ (tY (some o) r z).1=dH))/\((tY (some o) r z).2=o.2\/ (tY (some o) r z).2=dN)/\True:=λz=>by
  unfold tY
  dsimp only;rw [if_pos JZ];dsimp only;unfold wlo whi dH dN
  refine⟨?_,?_,trivial⟩
  .split
   .exact .inr rfl
   .exact .inl rfl
  .split
   .exact .inr rfl
   .exact .inl rfl
 have J: ∀(a z:Iv),((a.1=o.1\/a.1=dH)/\(a.2=o.2\/a.2=dN))->((z.1=o.1\/z.1=dH)/\(z.2=o.2\/z.2=dN))->(((Vn a z).1=o.1\/ (Vn a z).1=dH)/\((Vn a z).2=o.2\/ (Vn a z).2=dN)):=λa z D K=>by
  unfold Vn
  dsimp only;omega
 have i:(o.1=o.1\/o.1=dH)/\(o.2=o.2\/o.2=dN):=⟨.inl rfl,.inl rfl⟩;have u: ∀z,∀y,joG (some o) (tY (some o) r z)=some y->(y.1=o.1\/y.1=dH)/\(y.2=o.2\/y.2=dN):=λz y e=>by
  rw [<-Option.some.inj (show some (Vn o (tY (some o) r z))=some y from e)];exact J _ _ i ⟨(W z).1,(W z).2.1⟩
 have m: ∀y,Nm l g j x.v x.f r=some y->(y.1=o.1\/y.1=dH)/\(y.2=o.2\/y.2=dN):=λy e=>by
  unfold Nm at e;rw [ho]at e;split at e
  .rw [<-Option.some.inj e];exact i
  .exact u _ y e
 have e:=c4H l g j x.v x.f x.n x.d r;rw [show qU l g j ⟨x.v,x.f,x.n,x.d⟩ r=some y from h]at e;have A:Sq l g j x.v x.f x.n x.d r=(tY (some o) r (gR (rG l g) x.n),true):=by
  unfold Sq
  rw [if_neg (λq=>by have:=q.1;omega),ho]
 rw [A]at e;split at e
 .exact m y e.symm
 .rw [if_pos rfl]at e
  cases e2:Nm l g j x.v x.f r with
  |none=>
   rw [e2]at e;obtain rfl:y=tY (some o) r (gR (rG l g) x.n):=Option.some.inj e;exact⟨(W _).1,(W _).2.1⟩
  |some z=>
   rw [e2]at e;obtain rfl:y=Vn z (tY (some o) r (gR (rG l g) x.n)):=Option.some.inj e;exact J _ _ (m z e2) ⟨(W _).1,(W _).2.1⟩
theorem d1E{l:Y15}{vs:List LV}{r:Nat}(z:12<r){a:(Int->Option Iv) ×Bool}{x:LV}(A:x∈vs):pot vs (Ga l vs r a x).1<=pot vs a.1/\((Ga l vs r a x).2=true->a.2=true\/pot vs (Ga l vs r a x).1<pot vs a.1):=by
 cases e:oT l a.1 (zL vs a.1) x r with
 |none=>rw [J6 e];exact⟨AF _,λh=> .inl h⟩
 |some y=>
  obtain⟨g,i,j⟩:=J7 e;rw [g];have u:ptI (some y)<ptI (a.1 x.v):=by
   cases ho:a.1 x.v with
   |none=>
    unfold ptI
    dsimp only;split<;>split<;>omega
   |some o=>
    obtain⟨h1,h2⟩:=c4I z ho i;have m: ¬ (y.1=o.1/\y.2=o.2):=λq=>j (by rw [ho];exact congrArg some (Prod.ext q.1.symm q.2.symm))
    unfold ptI
    dsimp only;split<;>split<;>split<;>split<;>omega
  obtain⟨D,G⟩:=a8U u vs;exact⟨D,λ_=> .inr (G ⟨x,A,rfl⟩)⟩
theorem Vf{l:Y15}{vs:List LV}{r:Nat}(g:12<r): ∀(L:List LV)(a:(Int->Option Iv) ×Bool),(∀x∈L,x∈vs)->pot vs (L.foldl (Ga l vs r) a).1<=pot vs a.1/\((L.foldl (Ga l vs r) a).2=true->a.2=true\/pot vs (L.foldl (Ga l vs r) a).1<pot vs a.1)
 | [],a,_=>⟨AF _,λh=> .inl h⟩
 |x::L,a,hx=>by
  obtain⟨h1,h2⟩:=d1E (l:=l) g (a:=a) (hx x BG);obtain⟨h3,h4⟩:=Vf (l:=l) g L (Ga l vs r a x) (λy i=>hx y (CC _ i));rw [IW];refine⟨CG h3 h1,λh=>?_⟩;rcases h4 h with q|q
  .rcases h2 q with z|z
   .exact .inl z
   .exact .inr JZ
  .exact .inr JZ
theorem a8X(l:Y15)(vs:List LV): ∀k,(∀m,m<=12+k->(eT l vs m).2=true)->pot vs (eT l vs (12+k)).1+k<=3*vs.length
 |0,_=>c2W _ _
 |k+1,h=>by
  have i:=a8X l vs k λm hm=>h m JZ
  have h2:=h (12+(k+1)) (AF _);have h3:=Vf (l:=l) (vs:=vs) (r:=12+k+1) JZ vs ((eT l vs (12+k)).1,false) (λx g=>g);have e:eT l vs (12+(k+1))=vs.foldl (Ga l vs (12+k+1)) ((eT l vs (12+k)).1,false):=rfl;rw [e]at h2⊢;rcases h3.2 h2 with q|q
  .cases q
  .dsimp only at q;omega
theorem X6{l:Y15}{vs:List LV}{n:Nat}(h: ∀m,m<=n->(eT l vs m).2=true):n<=12+3*vs.length:=by
 rcases BK n 12 with c|c
 .omega
 .have:=a8X l vs (n-12) λm hm=>h m JZ
  omega
theorem d1J{vs:List LV}{g:Int->Option Iv}{v:Int}{y:Iv} :zL vs (qT g v y)=λw=>if w=v then false else zL vs g w:=by
 funext w;unfold zL qT
 by_cases e:w=v
 .rw [if_pos e,if_pos e];simp
 .rw [if_neg e,if_neg e]
theorem c4F{vs:List LV}{g:Int->Option Iv}{v:Int}(h:zL vs g v=true):g v=none:=by
 unfold zL at h;rw [AE,Option.isNone_iff_eq_none]at h;exact h.2
def OvC{α:Type}(c:α->Y14)(z b:Nat)(g:Heap)(ov:IV)(L:List α):Prop:=(ov= .nilslice/\L=[]) \/ ∃io,ov= .vslice (some io) (L.length*z) L.length z (L.flatMap c)/\g.get io= .tip (L.length*z)/\b<=io/\io<g.next
theorem OvC.app{α:Type}{c:α->Y14}{z b:Nat}{g:Heap}{L:List α}{x:α}{cs:Y14}{bytes:Nat}{K:Nat->Nat->Nat->Y14->Heap->Prop}(h:OvC c z b g s L)(hcs:cs=c x)(hL:(L.length+1)*bytes<=140737488355328)(hb:b<=g.next)
  (hk: ∀id e n c' g2,OvC c z b g2 (.vslice (some id) e n z c') (L++ [x])->(∀j,j<b->g2.get j=g.get j)->g.next<=g2.next->K id e n c' g2):dX g z bytes s 1 cs K:=by
 rcases h with⟨rfl,rfl⟩| ⟨m,rfl,l,h1,h2⟩
 .refine⟨by simpa using hL,hk _ _ _ _ _ (.inr ⟨g.next,?_,?_,hb,AQ _⟩) (λj i=>aO JZ) (DM _)⟩
  .rw [hcs,DG,BF,IP,CZ];rfl
  .exact aW
 .refine⟨⟨rfl,hL,l⟩,hk _ _ _ _ _ (.inr ⟨m,?_,?_,h1,h2⟩) (λj i=>aG JZ) (AF _)⟩
  .rw [hcs,AI,CI];simp only [AS,BL,BF,IP,CZ];rw [show(L.length+(0+1))*z=L.length*z+1*z by rw [CS]]
  .rw [aH,AI];simp only [AS,BL];rw [CS]
theorem On(vs:List LV)(g:Int->Option Iv)(x:LV):mW (vs++ [x]) g=mW vs g++(match g x.v with|some r=>[(x.v,r)]|none=>[]):=by
 unfold mW
 rw [List.filterMap_append]
 congr 1
 cases h:g x.v with
 |none=>simp [h]
 |some r=>simp [h]
theorem So(vs:List LV)(g:Int->Option Iv):(mW vs g).length<=vs.length:=IK _ _
theorem H6(l:Y15):(aI l).length<=16*l.length:=a3Q l _
theorem W3{C:List (Int×Iv)}(h: ∀p∈C,cF p.2):KOk (kSI C):=by
 intro v r e;unfold kSI at e
 cases z:C.find? (λp=>decide (p.1=v))with
 |none=>rw [z]at e;cases e
 |some p=>
  rw [z]at e;dsimp only at e;split at e
  .rename_i c;rw [<-Option.some.inj e];exact⟨c,h p (List.mem_of_find?_eq_some z)⟩
  .cases e
def ctd(a b:Iv):Bool:=decide (b.1<=a.1) &&decide (a.2<=b.2)
def Yl(L:List LV):Int->Option LV:=L.foldl (λf x=>λv=>if v=x.v then some x else f v) (λ_=>none)
theorem Gf(L:List LV)(x:LV)(v:Int):Yl (L++ [x]) v=if v=x.v then some x else Yl L v:=by
 unfold Yl
 rw [GQ];rfl
theorem Te{v:Int}{x:LV}{L:List LV}(h:Yl L v=some x):x∈L/\x.v=v:=by
 have j: ∀n,∀L:List LV,L.length=n->Yl L v=some x->x∈L/\x.v=v:=by
  intro n
  induction n with
  |zero=>
   intro L g h;rw [IT.1 g]at h
   cases h
  |succ n ih=>
   intro L g h;obtain⟨y,M,e⟩: ∃y M,L=M++ [y]:=by
    have i:L≠[]:=λe=>by rw [e]at g;cases g
    exact⟨L.getLast i,L.dropLast,(HP i).symm⟩
   rw [e,Gf]at h;rw [e];split at h
   .rename_i c;obtain rfl:=AV h;exact⟨List.mem_append_right _ BG,c.symm⟩
   .have l:M.length=n:=by rw [e,AI]at g;simpa using g
    obtain⟨a,b⟩:=ih M l h;exact⟨List.mem_append_left _ a,b⟩
 exact j _ L rfl h
def Ls(l:Y15)(C:List (Int×Iv))(i:Nat):Bool:=match Yl (aI l) (C.getD i (0,(0,0))).1 with
 |none=>false
 |some x=>!(fW (C.take i) (C.getD i (0,(0,0))).1) && (decide ((C.getD i (0,(0,0))).2.1<=(C.getD i (0,(0,0))).2.2) && (ctd (gR (rG l (kSI C)) x.f) (C.getD i (0,(0,0))).2&& (!(jL l x (gR (rG l (kSI C)) x.n) (rG l (kSI C))).2||ctd (jL l x (gR (rG l (kSI C)) x.n) (rG l (kSI C))).1 (C.getD i (0,(0,0))).2)))
def vQ(l:Y15)(C:List (Int×Iv)):Nat->Bool
 |0=>true
 |i+1=>vQ l C i&&Ls l C i
def Ba(l:Y15)(C:List (Int×Iv)):Bool:=vQ l C C.length
theorem Qw{l:Y15}{C:List (Int×Iv)}{i:Nat}(h:Ls l C i=false): ∀n,i<n->vQ l C n=false
 |0,q=>absurd q (DN _)
 |n+1,q=>by
  rw [vQ];rcases BK i n with c|c
  .rw [Qw h n c,CN]
  .obtain rfl:i=n:=JZ;rw [h,EQ]
end Go.M14
end
section
namespace Go.M10
open Go.M15 Go.Pv
theorem e3S{l:Y13}{i:Nat}{v:Bool}(h:i<l.length):List.take (0+(i:Int).toNat*1) (l.map IV.bool)++ [IV.bool v]++List.drop (0+(i:Int).toNat*1+1) (l.map IV.bool)=(l.set i v).map IV.bool:=by
 rw [AY,AK,AM,<-List.map_take,<-List.map_drop,DH,if_pos h];simp
theorem e3T{l:Y12}{i:Nat}{v:Int}(h:i<l.length):List.take (0+(i:Int).toNat*1) (l.map (IV.int .i64))++ [IV.int .i64 v]++List.drop (0+(i:Int).toNat*1+1) (l.map (IV.int .i64))=(l.set i v).map (IV.int .i64):=by
 rw [AY,AK,AM,<-List.map_take,<-List.map_drop,DH,if_pos h];simp
def GL(g:Y15):Prop:= ∀n∈g,bE n.op/\bE n.im/\n.ks.length<=40
def LV(h:Heap)(id:Nat)(lv:IV)(g:Y15):Prop:=(g=[]/\lv= .nilslice) \/ ∃io,lv= .vslice (some io) (g.length*3) g.length 3 (g.flatMap cN)/\h.get io= .tip (g.length*3)/\io<h.next/\io≠id
def NL(h:Heap)(id j:Nat):Prop:= ∀(cs:Y14)(e n z:Nat)(c:Y14),h.get id= .cells cs->cs[2]?≠some (.vslice (some j) e n z c)
structure FV(id iv:Nat)(h h2:Heap):Prop where
 nx:h.next<=h2.next
 cl: ∀(j:Nat)(c:Y14),j<h.next->j≠id->j≠iv->h.get j= .cells c->h2.get j= .cells c
 tp: ∀(j m:Nat),j<h.next->h.get j= .tip m->NL h id j->h2.get j= .tip m/\NL h2 id j
theorem FV.refl{id iv:Nat}{h:Heap} :FV id iv h h:=⟨AF _,λ_ _ _ _ _ e=>e,λ_ _ _ e n=>⟨e,n⟩⟩
theorem FV.trans{id iv g:Nat}{a b c:Heap}(x:FV id iv a b)(y:FV id g b c)(z:g=iv\/g=id\/a.next<=g):FV id iv a c:=
 ⟨CG x.nx y.nx,λj r i l u e=>y.cl j r (AU i x.nx) l JZ (x.cl j r i l u e),λj m i e n=>by
  obtain⟨p,q⟩:=x.tp j m i e n;exact y.tp j m (AU i x.nx) p q⟩
theorem NL.push{h:Heap}{id j:Nat}{x:IObj}(g:id<h.next)(n:NL h id j):NL (h.push x) id j:=λcs e a z c q=>n cs e a z c (by rwa [aO g]at q)
theorem NL.set{h:Heap}{id i j:Nat}{x:IObj}(n:NL h id j)(g:i≠id):NL (h.set i x) id j:=λcs e a z c q=>n cs e a z c (by rwa [aG g.symm]at q)
theorem FV.own{id iv:Nat}{h h2:Heap}{a b:Y14}(x:FV id iv h h2)(g:h2.get id= .cells a)(u: ∀(j e n z:Nat)(c:Y14),j<h.next->b[2]?=some (.vslice (some j) e n z c)-> ∃e n z c,a[2]?=some (.vslice (some j) e n z c)):FV id iv h (h2.set id (.cells b)):=
 ⟨x.nx,λj r h1 l y e=>by rw [aG l];exact x.cl j r h1 l y e,λj m i e n=>by
  obtain⟨p,q⟩:=x.tp j m i e n;refine⟨by rw [aG (λw=>by rw [w,g]at p;cases p)];exact p,λcs L G O K w A=>?_⟩;rw [aH,IObj.cells.injEq]at w;subst w;obtain⟨_,_,_,_,D⟩:=u _ _ _ _ _ i A;exact q a _ _ _ _ g D⟩
theorem FV.set{id iv:Nat}{h h2:Heap}{a b:Y14}(x:FV id iv h h2)(g:h2.get id= .cells a)(i:b[2]?=a[2]?):FV id iv h (h2.set id (.cells b)):=x.own g λ_ _ _ _ _ _ q=>⟨_,_,_,_,i▸q⟩
theorem FV.put{id iv i:Nat}{h h2:Heap}{a:Y14}{o:IObj}(x:FV id iv h h2)(l:h2.get i= .cells a)(g:i≠id)(z:i=iv\/h.next<=i):FV id iv h (h2.set i o):=
 ⟨x.nx,λj r h1 g y e=>by rw [aG JZ];exact x.cl j r h1 g y e,λj m u e n=>by
  obtain⟨p,q⟩:=x.tp j m u e n;exact⟨by rw [aG (λw=>by rw [w,l]at p;cases p)];exact p,q.set g⟩⟩
theorem FV.push{id iv:Nat}{h h2:Heap}{o:IObj}(x:FV id iv h h2)(g:id<h2.next):FV id iv h (h2.push o):=
 ⟨HW x.nx,λj r h1 l u e=>by rw [aO (AU h1 x.nx)];exact x.cl j r h1 l u e,λj m i e n=>by
  obtain⟨p,q⟩:=x.tp j m i e n;exact⟨by rw [aO (AU i x.nx)];exact p,q.push g⟩⟩
theorem FV.grow{id iv i k:Nat}{h h2:Heap}{o:IObj}(x:FV id iv h h2)(z:h2.get i= .tip k)(A:h.next<=i\/ ¬NL h2 id i)(l:i≠id):FV id iv h (h2.set i o):=
 ⟨x.nx,λj r h1 D G e=>by
  have g:=x.cl j r h1 D G e;rw [aG (λw=>by rw [w,z]at g;cases g)];exact g,λj m u e n=>by
  obtain⟨p,q⟩:=x.tp j m u e n;have y:j≠i:=λw=>A.elim (λ_=>JZ) λc=>c (w▸q)
  exact⟨by rw [aG y];exact p,q.set l⟩⟩
structure PSt where
 ns:Y15
 a:IV
 b:IV
 c:IV
 d:IV
 e:IV
 f:IV
def PSt.cells(p:PSt)(lv:IV):Y14:=[p.a,p.b,lv,p.c,p.d,p.e,p.f]
structure PutPre(h:Heap)(id:Nat)(p:PSt)(lv:IV)(op im:Int)(ks:Y12):Prop where
 lt:id<h.next
 g:h.get id= .cells (p.cells lv)
 lv:LV h id lv p.ns
 ok:bE op/\bE im/\ks.length<=40
 gl:GL p.ns
 ln:p.ns.length<=1000000
structure PutPost(h:Heap)(id:Nat)(p:PSt)(h2:Heap)(lv:IV)(ns:Y15):Prop where
 g:h2.get id= .cells (p.cells lv)
 lv:LV h2 id lv ns
 gl:GL ns
 ln:1<=ns.length/\ns.length<=p.ns.length+1
 fv:FV id id h h2
structure BSt where
 pa:Y14
 pf:Y14
 f:Int
 ns:Y15
 lv:IV
 io:Y10
 ie:Nat
 iv:Nat
 vs:Y12
 st:Int
 lo:Int
def BSt.p(s:BSt):PSt:=⟨s.ns,.vslice none 0 2 2 s.pa,.vslice none 0 2 9 s.pf,.vslice s.io s.ie (cK s.f).length 1 ((cK s.f).map IV.str),.hslice s.iv 0 s.vs.length 1,.int .i64 s.st,.int .i64 s.lo⟩
def BSt.cells(s:BSt):Y14:=s.p.cells s.lv
structure BH(h:Heap)(id:Nat)(s:BSt):Prop where
 lt:id<h.next
 g:h.get id= .cells s.cells
 lv:LV h id s.lv s.ns
 vr:s.iv<h.next/\s.iv≠id/\h.get s.iv= .cells (s.vs.map (IV.int .i64))
 gl:GL s.ns
 n1:1<=s.ns.length
 vl:s.vs.length=(cK s.f).length
 pp:vR s.pa s.pf
 hl:bE s.lo
theorem LV.set{h:Heap}{id i:Nat}{lv:IV}{x:IObj}(l:LV h id lv A){c:Y14}(j:h.get i= .cells c):LV (h.set i x) id lv A:=by
 rcases l with l| ⟨m,r,g,u,y⟩
 .exact .inl l
 .exact .inr ⟨m,r,by rw [aG (λq=>by rw [q,j]at g;cases g)];exact g,u,y⟩
theorem LV.push{h:Heap}{id:Nat}{lv:IV}{x:IObj}(l:LV h id lv A):LV (h.push x) id lv A:=by
 rcases l with l| ⟨i,j,m,g,r⟩
 .exact .inl l
 .exact .inr ⟨i,j,by rw [aO g];exact m,BO g,r⟩
theorem LV.grow{h:Heap}{id i:Nat}{p:PSt}{lv:IV}{x:IObj}(l:LV h id lv A)(j:h.get id= .cells (p.cells lv))(n:NL h id i):LV (h.set i x) id lv A:=by
 rcases l with l| ⟨m,g,r,u,y⟩
 .exact .inl l
 .exact .inr ⟨m,g,by rw [aG (λq=>n _ _ _ _ _ j (by rw [<-q,g];rfl))];exact r,u,y⟩
theorem LV.nl{h:Heap}{id:Nat}{p:PSt}{lv:IV}{x:IObj}(l:LV h id lv A)(i:id<h.next)(m:h.get id= .cells (p.cells lv)):NL (h.push x) id h.next:=λcs e n z c q r=>by
 rw [aO i,m,IObj.cells.injEq]at q;subst q;have g:lv= .vslice (some h.next) e n z c:=AV r;rcases l with⟨_,j⟩| ⟨u,j,_,y,_⟩
 .rw [j]at g;cases g
 .rw [j]at g;simp only [IV.vslice.injEq,AC]at g;omega
theorem BH.push{h:Heap}{id:Nat}{s:BSt}{x:IObj}(b:BH h id s):BH (h.push x) id s:=
 ⟨BO b.lt,(aO b.lt).trans b.g,b.lv.push,⟨BO b.vr.1,b.vr.2.1,(aO b.vr.1).trans b.vr.2.2⟩,b.gl,b.n1,b.vl,b.pp,b.hl⟩
theorem BH.grow{h:Heap}{id i m:Nat}{s:BSt}{x:IObj}(b:BH h id s)(j:h.get i= .tip m)(n:NL h id i):BH (h.set i x) id s:=
 ⟨b.lt,(aG (λq=>by have:=b.g;rw [q,j]at this;cases this)).trans b.g,b.lv.grow b.g n,⟨b.vr.1,b.vr.2.1,(aG (λq=>by have:=b.vr.2.2;rw [q,j]at this;cases this)).trans b.vr.2.2⟩,b.gl,b.n1,b.vl,b.pp,b.hl⟩
structure BW(h:Heap)(id:Nat)(s:BSt)(h2:Heap)(s2:BSt)(c:Nat):Prop where
 bh:BH h2 id s2
 len:s2.ns.length<=s.ns.length+c
 f:s2.f=s.f
 fv:FV id s.iv h h2
 iv:s2.iv=s.iv\/h.next<=s2.iv
theorem BW.refl{h:Heap}{id:Nat}{s:BSt}(b:BH h id s):BW h id s h s 0:=⟨b,AF _,rfl,FV.refl,.inl rfl⟩
theorem BW.trans{h h2 h3:Heap}{id:Nat}{s g i:BSt}{c d:Nat}(x:BW h id s h2 g c)(y:BW h2 id g h3 i d):BW h id s h3 i (c+d):=by
 have h1:=x.fv.nx;have h2:=x.len;have h3:=y.len;have h4:=x.iv;have j:=y.iv;exact⟨y.bh,JZ,y.f.trans x.f,x.fv.trans y.fv JZ,JZ⟩
theorem BW.le{h h2:Heap}{id:Nat}{s g:BSt}{c d:Nat}(x:BW h id s h2 g c)(i:c<=d):BW h id s h2 g d:=⟨x.bh,CG x.len JZ,x.f,x.fv,x.iv⟩
theorem BW.w{h h2:Heap}{id:Nat}{s j i:BSt}{c:Nat}(x:BW h id s h2 j c)(e:i.ns=j.ns/\i.lv=j.lv/\i.f=j.f/\i.pa=j.pa/\i.pf=j.pf)(m:i.iv<h2.next/\i.iv≠id/\h2.get i.iv= .cells (i.vs.map (IV.int .i64)))(vl:i.vs.length=(cK j.f).length)(D:bE i.lo)(A:i.iv=s.iv\/h.next<=i.iv):
  BW h id s (h2.set id (.cells i.cells)) i c:=by
 obtain⟨l,r,u,y,z⟩:=e;exact⟨⟨x.bh.lt,aH,by rw [l,r];exact x.bh.lv.set x.bh.g,⟨m.1,m.2.1,(aG m.2.1).trans m.2.2⟩,by rw [l];exact x.bh.gl,by rw [l];exact x.bh.n1,by rw [u];exact vl,by rw [y,z];exact x.bh.pp,D⟩,
  by rw [l];exact x.len,u.trans x.f,x.fv.set x.bh.g (congrArg some r),A⟩
theorem BW.st{h h2:Heap}{id:Nat}{s g:BSt}{c:Nat}(x:BW h id s h2 g c)(v:Int):BW h id s (h2.set id (.cells ({g with st:=v } :BSt).cells)) {g with st:=v } c:=
 x.w ⟨rfl,rfl,rfl,rfl,rfl⟩ x.bh.vr x.bh.vl x.bh.hl x.iv
theorem BW.lo{h h2:Heap}{id:Nat}{s g:BSt}{c:Nat}{v:Int}(x:BW h id s h2 g c)(i:bE v):BW h id s (h2.set id (.cells ({g with lo:=v } :BSt).cells)) {g with lo:=v } c:=
 x.w ⟨rfl,rfl,rfl,rfl,rfl⟩ x.bh.vr x.bh.vl i x.iv
theorem BW.row{h h2:Heap}{id j:Nat}{s g:BSt}{c:Nat}{ws:Y12}(x:BW h id s h2 g c)(i:j<h2.next/\h.next<=j)(m:id<h.next)(l:h2.get j= .cells (ws.map (IV.int .i64)))(r:ws.length=(cK g.f).length):
  BW h id s (h2.set id (.cells ({g with iv:=j,vs:=ws } :BSt).cells)) {g with iv:=j,vs:=ws } c:=
 x.w ⟨rfl,rfl,rfl,rfl,rfl⟩ ⟨i.1,KE,l⟩ r x.bh.hl (.inr i.2)
theorem BW.var{h h2:Heap}{id j:Nat}{s l:BSt}{c:Nat}{i:Nat}{v:Int}(x:BW h id s h2 l c)(y:i<l.vs.length)(z:l.iv=j:=by rfl):BW h id s (h2.set j (.cells (List.take (0+(i:Int).toNat*1) (l.vs.map (IV.int .i64))++ [IV.int .i64 v]++List.drop (0+(i:Int).toNat*1+1) (l.vs.map (IV.int .i64))))) {l with vs:=l.vs.set i v } c:=by
 subst z;obtain⟨b,h2,h3,h4,r⟩:=x;obtain⟨A,m,u⟩:=b.vr;rw [e3T y];exact⟨⟨b.lt,by rw [aG m.symm,b.g];simp [BSt.cells,BSt.p],b.lv.set u,⟨A,m,aH⟩,b.gl,b.n1,by rw [CM];exact b.vl,b.pp,b.hl⟩,h2,h3,h4.put u m r,r⟩
theorem BW.vl{h h2:Heap}{id:Nat}{s g:BSt}{c:Nat}(x:BW h id s h2 g c):g.vs.length=(cK s.f).length:=by rw [x.bh.vl,x.f]
theorem BH.row{h:Heap}{id j:Nat}{s:BSt}(b:BH h id s)(g:s.iv=j):h.get j= .cells (s.vs.map (IV.int .i64)):=g▸b.vr.2.2
theorem Ms{l:Y14}{i n:Nat}(h:i<n)(e:l.length=n):Nat.ble (0+(i:Int).toNat*1+1) l.length=true:=by
 rw [BB,AK];omega
theorem BW.push{h h2:Heap}{id:Nat}{s g:BSt}{c:Nat}{o:IObj}(x:BW h id s h2 g c):BW h id s (h2.push o) g c:=⟨x.bh.push,x.len,x.f,x.fv.push x.bh.lt,x.iv⟩
theorem BH.nl{h:Heap}{id:Nat}{s:BSt}{x:IObj}(b:BH h id s):NL (h.push x) id h.next:=b.lv.nl b.lt b.g
theorem BH.ne{h:Heap}{id i m:Nat}{s:BSt}(b:BH h id s)(j:h.get i= .tip m):i≠id:=λq=>by have:=b.g;rw [<-q,j]at this;cases this
theorem BW.grow{h h2:Heap}{id i m:Nat}{s j:BSt}{c:Nat}{x:IObj}(y:BW h id s h2 j c)(g:h2.get i= .tip m)(l:h.next<=i)(n:NL h2 id i):BW h id s (h2.set i x) j c:=
 ⟨y.bh.grow g n,y.len,y.f,y.fv.grow g (.inl l) (y.bh.ne g),y.iv⟩
theorem BW.put{h h2:Heap}{id:Nat}{s i:BSt}{c:Nat}{K:Int->Heap->Prop}(x:BW h id s h2 i c){op m:Int}(ks:Y12)(D:s.ns.length+c<=1000000)(y: ∀(v:Int)(h3:Heap)(r:BSt),BW h id s h3 r (c+1)->r.iv=i.iv->FV id id h2 h3->K v h3)
  (ho:bE op:=by decide) (hm:bE m:=by decide) (hk:ks.length<=40:=by simp): ∃(p:PSt)(lv:IV)(l:Y12),(ks.length=l.length/\ks.map (IV.int .i64)=l.map (IV.int .i64))/\PutPre h2 id p lv op m l/\∀(v:Int)(h3:Heap)(lv:IV)(ns:Y15),PutPost h2 id p h3 lv ns->K v h3:=by
 have A:=x.len;refine⟨i.p,i.lv,ks,⟨rfl,rfl⟩,⟨x.bh.lt,x.bh.g,x.bh.lv,⟨ho,hm,hk⟩,x.bh.gl,show i.ns.length<=_ by omega⟩,λv h3 lv ns p=>y v h3 {i with ns:=ns,lv:=lv } ⟨⟨AU x.bh.lt p.fv.nx,p.g,p.lv,?_,p.gl,p.ln.1,x.bh.vl,x.bh.pp,x.bh.hl⟩,?_,x.f,?_,x.iv⟩ rfl p.fv⟩
 .obtain⟨u,j,z⟩:=x.bh.vr;exact⟨AU u p.fv.nx,j,p.fv.cl _ _ u j j z⟩
 .have:ns.length<=i.ns.length+1:=p.ln.2;dsimp only;omega
 .exact x.fv.trans p.fv (.inr (.inl rfl))
def BI(h:Heap)(id:Nat)(s:BSt)(h2:Heap)(g:BSt)(c:Nat):Prop:=BW h id s h2 g c/\g.iv=s.iv
theorem BI.refl{h:Heap}{id:Nat}{s:BSt}(b:BH h id s):BI h id s h s 0:=⟨BW.refl b,rfl⟩
theorem BI.trans{h h2 h3:Heap}{id:Nat}{s g i:BSt}{c d:Nat}(x:BI h id s h2 g c)(y:BI h2 id g h3 i d):BI h id s h3 i (c+d):=⟨x.1.trans y.1,y.2.trans x.2⟩
theorem BI.le{h h2:Heap}{id:Nat}{s g:BSt}{c d:Nat}(x:BI h id s h2 g c)(i:c<=d):BI h id s h2 g d:=⟨x.1.le i,x.2⟩
theorem BI.st{h h2:Heap}{id:Nat}{s g:BSt}{c:Nat}(x:BI h id s h2 g c)(v:Int):BI h id s (h2.set id (.cells ({g with st:=v } :BSt).cells)) {g with st:=v } c:=⟨x.1.st v,x.2⟩
theorem BI.put{h h2:Heap}{id:Nat}{s u:BSt}{c:Nat}{K:Int->Heap->Prop}(x:BI h id s h2 u c){op i:Int}(ks:Y12)(m:s.ns.length+c<=1000000)(j: ∀(v:Int)(h3:Heap)(g:BSt),BI h id s h3 g (c+1)->K v h3)
  (ho:bE op:=by decide) (hm:bE i:=by decide) (hk:ks.length<=40:=by simp): ∃(p:PSt)(lv:IV)(l:Y12),(ks.length=l.length/\ks.map (IV.int .i64)=l.map (IV.int .i64))/\PutPre h2 id p lv op i l/\∀(v:Int)(h3:Heap)(lv:IV)(r:Y15),PutPost h2 id p h3 lv r->K v h3:=
 x.1.put ks m (λv h3 g y e _=>j v h3 g ⟨y,e.trans x.2⟩) ho hm hk
theorem BH.same{h h2:Heap}{id:Nat}{s i:BSt}(a:BH h id s)(b:BH h2 id i)(hf:i.f=s.f)(j:i.iv=s.iv):Su h h2 id 4:=by
 have e: ∀{h s},BH h id s->fO h id 4=some (.hslice s.iv 0 (cK s.f).length 1):=λ{h s} b=>by
  unfold fO
  rw [b.g,<-b.vl];rfl
 unfold Su
 rw [e a,e b,j,hf]
structure PuI(h:Heap)(id:Nat)(p:PSt)(lv:IV)(g:Heap):Prop where
 lt:id<g.next
 e:g.get id= .cells (p.cells lv)
 lv:LV g id lv p.ns
 fv:FV id id h g
theorem PuI.app{h g:Heap}{id bytes:Nat}{p:PSt}{lv:IV}{op u:Int}{l:Y12}{K:Nat->Nat->Nat->Y14->Heap->Prop}(x:PuI h id p lv g)(y:PutPre h id p lv op u l)(Y:bytes<=1000)
  (hK: ∀(j:Nat)(g2:Heap)(m:Y15),g2.get id= .cells (p.cells lv)->PutPost h id p (g2.set id (.cells (p.cells (.vslice (some j) (m.length*3) m.length 3 (m.flatMap cN))))) (.vslice (some j) (m.length*3) m.length 3 (m.flatMap cN)) m->K j (m.length*3) m.length (m.flatMap cN) g2):
  dX g 3 bytes lv 1 [.int .i64 op,.int .i64 u,.vslice none 0 l.length 1 (l.map (IV.int .i64))] K:=by
 have hl:=y.ln;have R:GL (p.ns++ [⟨op,u,l⟩]):=λn hn=>by
  rcases BZ.1 hn with q|q
  .exact y.gl n q
  .rw [BU.1 q];exact y.ok
 have X: ∀{m:Y15},m=p.ns++ [⟨op,u,l⟩]->1<=m.length/\m.length<=p.ns.length+1:=λe=>by rw [e,AI];exact⟨Nat.le_add_left _ _,AF _⟩
 rcases x.lv with⟨e0,rfl⟩| ⟨D,rfl,V,G,r⟩
 .have O: [⟨op,u,l⟩]=p.ns++ [⟨op,u,l⟩]:=by rw [e0];rfl
  have A:=(aO (x:= .tip 3) x.lt).trans x.e;have T:=DL x.lt;refine⟨JZ,hK g.next (g.push (.tip 3)) [⟨op,u,l⟩] A ⟨aH,.inr ⟨_,rfl,(aG T).trans aW,AQ _,T⟩,O▸R,X O,(x.fv.push x.lt).own A λi e n z c Z q=>?_⟩⟩;have:some g.next=some i:=congrArg (λv=>match v with|some (.vslice a _ _ _ _)=>a|_=>none) q;have:=x.fv.nx;have:=AV ‹some g.next=some i›;omega
 .have L:(p.ns++ [(⟨op,u,l⟩:Nd)]).length=p.ns.length+1:=by rw [AI];rfl
  have A:=(aG (x:= .tip (p.ns.length*3+1*3)) r.symm).trans x.e;refine⟨⟨rfl,CG (JC (show p.ns.length+1<=1000001 by omega) Y) KA,V⟩,?_⟩;have k:=hK D (g.set D (.tip (p.ns.length*3+1*3))) _ A ⟨aH,.inr ⟨D,rfl,(aG r).trans (aH.trans (by rw [L];exact congrArg _ JZ)),G,r⟩,R,X rfl,(x.fv.grow V (.inr λn=>n _ _ _ _ _ x.e rfl) r).own A λi e n z c Z q=>?_⟩
  .rw [L,CI,CS]at k;exact k
  .have:some D=some i:=congrArg (λv=>match v with|some (.vslice a _ _ _ _)=>a|_=>none) q;have:=AV ‹some D=some i›;subst this;exact⟨_,_,_,_,rfl⟩
structure ExPre(h:Heap)(id:Nat)(s:BSt)(d:Nat)(k n:Int)(nm:Y11)(op:Int)(ks:List E):Prop where
 bh:BH h id s
 wf:E.wf s.f (.mk k n nm op ks)
 dp:Es.dp ks<d
 len:s.ns.length+E.cost (.mk k n nm op ks)<=90000
theorem Es.dp_lt{q:List E}{k n:Int}{nm:Y11}{op:Int}{ks:List E}(h:E.mk k n nm op q∈ks):Es.dp q<Es.dp ks:=by
 have:=Es.dp_mem h;simp only [E.dp]at this;omega
theorem E.cost4{k n:Int}{nm:Y11}{op:Int}{ks:List E}(h:k≠2/\k≠0):E.cost (.mk k n nm op ks)=4+Es.cost ks:=by
 rw [E.cost,if_neg JZ]
theorem Nn(k n:Int)(nm:Y11)(op:Int){ks:List E}(h:k≠2/\k≠0)(g:ks.length=1): ∃k1 n1 m1 o1 q1,ks=[.mk k1 n1 m1 o1 q1]/\E.cost (.mk k n nm op ks)=4+E.cost (.mk k1 n1 m1 o1 q1)/\Es.dp q1<Es.dp ks:=by
 match ks,g with
 | [.mk _ _ _ _ _],_=>exact⟨_,_,_,_,_,rfl,by rw [E.cost4 h];simp only [Es.cost];omega,Es.dp_lt BG⟩
theorem mK(k n:Int)(nm:Y11)(op:Int){ks:List E}(h:k≠2/\k≠0)(g:ks.length=2): ∃k1 n1 m1 o1 q1 k2 n2 m2 o2 q2,ks=[.mk k1 n1 m1 o1 q1,.mk k2 n2 m2 o2 q2]/\E.cost (.mk k n nm op ks)=4+E.cost (.mk k1 n1 m1 o1 q1)+E.cost (.mk k2 n2 m2 o2 q2)/\Es.dp q1<Es.dp ks/\Es.dp q2<Es.dp ks:=by
 match ks,g with
 | [.mk _ _ _ _ _,.mk _ _ _ _ _],_=>exact⟨_,_,_,_,_,_,_,_,_,_,rfl,by rw [E.cost4 h];simp only [Es.cost];omega,Es.dp_lt BG,Es.dp_lt (CC _ BG)⟩
theorem ks3(k n:Int)(nm:Y11)(op:Int){ks:List E}(h:k≠2/\k≠0)(g:ks.length=3): ∃k1 n1 m1 o1 q1 k2 n2 m2 o2 q2 k3 n3 m3 o3 q3,ks=[.mk k1 n1 m1 o1 q1,.mk k2 n2 m2 o2 q2,.mk k3 n3 m3 o3 q3]/\E.cost (.mk k n nm op ks)=4+E.cost (.mk k1 n1 m1 o1 q1)+E.cost (.mk k2 n2 m2 o2 q2)+E.cost (.mk k3 n3 m3 o3 q3)/\Es.dp q1<Es.dp ks/\Es.dp q2<Es.dp ks/\Es.dp q3<Es.dp ks:=by
 match ks,g with
 | [.mk _ _ _ _ _,.mk _ _ _ _ _,.mk _ _ _ _ _],_=>exact⟨_,_,_,_,_,_,_,_,_,_,_,_,_,_,_,rfl,by rw [E.cost4 h];simp only [Es.cost];omega,Es.dp_lt BG,Es.dp_lt (CC _ BG),Es.dp_lt (CC _ (CC _ BG))⟩
structure StPre(h:Heap)(id:Nat)(s:BSt)(l:List S):Prop where
 bh:BH h id s
 wf:Ss.wf s.f l
 cnt:Ss.cnt l<=1000
 len:s.ns.length+Ss.cost l<=80000
structure AsP(h:Heap)(id jn:Nat)(s:BSt)(bs:Y13):Prop where
 bh:BH h id s
 bl:bs.length=(cK s.f).length
 bg:h.get jn= .cells (bs.map IV.bool)
 jl:jn<h.next
 ji:jn≠id/\jn≠s.iv
theorem noV{g:Y13}{e n z:Nat}{i:Y10}{c:Y14} :(g.map IV.bool)[2]?≠some (.vslice i e n z c):=λw=>by
 rw [BJ]at w
 cases hb:g[2]? with
 |none=>rw [hb]at w;cases w
 |some y=>rw [hb]at w;cases w
theorem AsP.set{h0 h:Heap}{id j:Nat}{s:BSt}{l:Y13}{i:Nat}(a:AsP h id j s l)(f:FV j j h0 h)(A:i<l.length): ∀{x},x=h.set j (.cells (List.take (0+(i:Int).toNat*1) (l.map IV.bool)++ [IV.bool true]++List.drop (0+(i:Int).toNat*1+1) (l.map IV.bool)))->AsP x id j s (l.set i true)/\FV j j h0 x:=λe=>by
 subst e;rw [e3S A];obtain⟨b,y,m,z,r,u⟩:=a;exact⟨⟨⟨b.lt,(aG r.symm).trans b.g,b.lv.set m,⟨b.vr.1,b.vr.2.1,(aG u.symm).trans b.vr.2.2⟩,b.gl,b.n1,b.vl,b.pp,b.hl⟩,by rw [CM];exact y,aH,z,r,u⟩,f.own m λ_ _ _ _ _ _ w=>(noV w).elim⟩
theorem AsP.push{h:Heap}{id i:Nat}{s:BSt}{g:Y13}{x:IObj}(a:AsP h id i s g):AsP (h.push x) id i s g:=
 ⟨a.bh.push,a.bl,by rw [aO a.jl];exact a.bg,BO a.jl,a.ji⟩
theorem AsP.grow{h:Heap}{id l i m:Nat}{s:BSt}{g:Y13}{x:IObj}(a:AsP h id l s g)(j:h.get i= .tip m)(n:NL h id i):AsP (h.set i x) id l s g:=
 ⟨a.bh.grow j n,a.bl,by rw [aG (λq=>by have:=a.bg;rw [q,j]at this;cases this)];exact a.bg,a.jl,a.ji⟩
theorem BW.asg{h h2 h3:Heap}{id l c:Nat}{s y:BSt}{O A:Y13}(x:BW h id s h2 y c)(a:AsP h2 id l y O)(b:AsP h3 id l y A)(f:FV l l h2 h3)(V:h.next<=l):BW h id s h3 y c:=by
 refine⟨b.bh,x.len,x.f,⟨CG x.fv.nx f.nx,λj r i R T e=>f.cl j r (AU i x.fv.nx) JZ JZ (x.fv.cl j r i R T e),λj m i e n=>?_⟩,x.iv⟩;obtain⟨p,q⟩:=x.fv.tp j m i e n;refine⟨(f.tp j m (AU i x.fv.nx) p λcs G K L D u z=>?_).1,λcs G K L D u z=>q cs G K L D ?_ z⟩
 .rw [a.bg,IObj.cells.injEq]at u;rw [<-u]at z;exact noV z
 .rw [b.bh.g]at u;rw [a.bh.g,u]
theorem Es.cost_take{l:List E}{i:Nat}(h:i<l.length):Es.cost (l.take (i+1))=Es.cost (l.take i)+l[i].cost:=by
 rw [AO h,Es.cost_append];simp only [Es.cost];omega
theorem Es.cost_le{l:List E}(i:Nat):Es.cost (l.take i)<=Es.cost l:=by
 have h:=Es.cost_append (a:=l.take i) (b:=l.drop i);rw [DQ]at h;omega
theorem Ss.cost_take{l:List S}{i:Nat}(h:i<l.length):Ss.cost (l.take (i+1))=Ss.cost (l.take i)+l[i].cost:=by
 rw [AO h,Ss.cost_append];simp only [Ss.cost];omega
theorem Ss.cost_le{l:List S}(i:Nat):Ss.cost (l.take i)<=Ss.cost l:=by
 have h:=Ss.cost_append (a:=l.take i) (b:=l.drop i);rw [DQ]at h;omega
theorem uQ(f:Int):2<=(cK f).length/\(cK f).length<=4:=by
 unfold cK
 split<;>simp
theorem c8M{cs:Y14}{K:IV->Prop}{v:IV}(e:cs[i]?=some v)(hk:K v):a3K cs i K:=by
 unfold a3K;rw [e];exact hk
theorem ldW{k:Nat}{w:Y12}{j:Nat}{K:Int->Prop}(i:j<w.length)(hk:w[j]=(k:Int))(g:K (k:Int)):aN .i64 (w.map (IV.int .i64)) ((j:Int).toNat*1) K:=
 cW (by rw [AK,AM,BJ,AB i,hk];rfl) g
theorem ldR{k:Nat}{w:Y12}{K:Int->Prop}(i:k<w.length)(g:K w[k]):aN .i64 (w.map (IV.int .i64)) (0+(k:Int).toNat*1) K:=
 cW (by rw [AY,AK,AM,BJ,AB i];rfl) g
theorem e2H{n:Nat} :fY n [IV.bool false]=(List.replicate n false).map IV.bool:=by
 induction n with
 |zero=>rfl
 |succ n ih=>rw [FW,BN,<-ih];rfl
theorem d6U{l:Y12} :([]++List.take (l.length*1) (List.drop 0 (l.map (IV.int .i64))):Y14)=l.map (IV.int .i64):=by
 rw [DG,DB,AJ KB]
def GR(h:Heap)(id b sz:Nat)(x:IV)(n:Nat)(l:Y14):Prop:=(x= .nilslice/\n=0/\l=[]) \/x= .vslice none 1 n sz l\/ ∃j,x= .vslice (some j) (n*sz) n sz l/\h.get j= .tip (n*sz)/\j<h.next/\b<=j/\NL h id j
theorem GR.fv{h h2:Heap}{id iv b sz n:Nat}{x:IV}{l:Y14}(r:GR h id b sz x n l)(f:FV id iv h h2):GR h2 id b sz x n l:=by
 rcases r with r|r| ⟨j,r1,i,g,m,u⟩
 .exact .inl r
 .exact .inr (.inl r)
 .obtain⟨y,z⟩:=f.tp _ _ g i u;exact .inr (.inr ⟨j,r1,y,AU g f.nx,m,z⟩)
theorem GR.row{h:Heap}{id b sz n e j:Nat}{l:Y14}(r:GR h id b sz (.vslice (some j) e n sz l) n l):h.get j= .tip (n*sz)/\j<h.next/\b<=j/\NL h id j:=by
 rcases r with⟨c,_⟩|c| ⟨g,c,q⟩
 .cases c
 .cases c
 .simp only [IV.vslice.injEq,AC]at c;exact c.1▸q
def Stp(id b:Nat)(h h2:Heap):Prop:=(∃o,h2=h.push o) \/ ∃j m o,h2=h.set j o/\h.get j= .tip m/\b<=j/\NL h id j
theorem Stp.cl{id b j:Nat}{h h2:Heap}{c:Y14}(t:Stp id b h h2)(g:j<h.next)(e:h.get j= .cells c):h2.get j= .cells c/\h.next<=h2.next:=by
 rcases t with⟨o,rfl⟩| ⟨i,m,o,rfl,l,_⟩
 .exact⟨(aO g).trans e,DM _⟩
 .exact⟨(aG (λw=>by rw [w,l]at e;cases e)).trans e,AF _⟩
theorem Stp.bw{id c:Nat}{h0 h h2:Heap}{s g:BSt}(t:Stp id h0.next h h2)(x:BW h0 id s h g c):BW h0 id s h2 g c:=by
 rcases t with⟨o,rfl⟩| ⟨i,m,o,rfl,l,j,n⟩
 .exact x.push
 .exact x.grow l j n
theorem Stp.am{id b j:Nat}{h h2:Heap}{s:BSt}{g:Y13}(t:Stp id b h h2)(x:AsP h id j s g):AsP h2 id j s g:=by
 rcases t with⟨o,rfl⟩| ⟨i,m,o,rfl,l,r,n⟩
 .exact x.push
 .exact x.grow l n
theorem GR.app{h:Heap}{id b sz bytes n m:Nat}{x:IV}{l xs:Y14}{K:Nat->Nat->Nat->Y14->Heap->Prop}(r:GR h id b sz x n l)(hm:(n+m)*bytes<=140737488355328)(G:b<=h.next){a:Y14}(L:h.get id= .cells a)(R: ∀o,NL (h.push o) id h.next)
  (hK: ∀(j:Nat)(h2:Heap),Stp id b h h2->GR h2 id b sz (.vslice (some j) ((n+m)*sz) (n+m) sz (l++xs)) (n+m) (l++xs)->K j ((n+m)*sz) (n+m) (l++xs) h2):dX h sz bytes x m xs K:=by
 have g: ∀k u,n+m=k->l++xs=u->K h.next (k*sz) k u (h.push (.tip (k*sz))):=λk u A D=>by
  subst A D;exact hK _ _ (.inl ⟨_,rfl⟩) (.inr (.inr ⟨_,rfl,aW,AQ _,G,R _⟩))
 rcases r with⟨rfl,rfl,rfl⟩|rfl| ⟨j,rfl,i,T,y,z⟩
 .exact⟨by rw [AY]at hm;exact hm,g m xs (AY m) (DG xs)⟩
 .exact⟨⟨rfl,hm⟩,g _ _ rfl rfl⟩
 .refine⟨⟨rfl,hm,i⟩,?_⟩;rw [<-Nat.add_mul];have O:j≠id:=λw=>by rw [w,L]at i;cases i
  exact hK _ _ (.inr ⟨_,_,_,rfl,i,y,z⟩) (.inr (.inr ⟨_,rfl,aH,T,y,z.set O⟩))
theorem BW.app{h0 h:Heap}{id c sz bytes n m:Nat}{s i:BSt}{x:IV}{l xs:Y14}{K:Nat->Nat->Nat->Y14->Heap->Prop}(y:BW h0 id s h i c)(r:GR h id h0.next sz x n l)(hm:(n+m)*bytes<=140737488355328)
  (hK: ∀(j:Nat)(h2:Heap),Stp id h0.next h h2->GR h2 id h0.next sz (.vslice (some j) ((n+m)*sz) (n+m) sz (l++xs)) (n+m) (l++xs)->K j ((n+m)*sz) (n+m) (l++xs) h2):dX h sz bytes x m xs K:=
 r.app hm y.fv.nx y.bh.g (λ_=>y.bh.nl) hK
structure IfP(h:Heap)(id:Nat)(s:BSt)(g:Heap)(s2:BSt)(ja:Nat)(i:Nat)(t:S):Prop where
 bw:BW h id s g s2 (t.cost-6+i)
 le:i<=(cK s.f).length
 jb:ja≠id/\ja≠s2.iv/\ja<g.next
 ws: ∃ws:Y12,g.get ja= .cells (ws.map (IV.int .i64))/\ws.length=(cK s.f).length
structure CaP(h:Heap)(id:Nat)(s:BSt)(g:Heap)(s2:BSt)(x:IV)(l:Y12)(i:Nat)(args:List E):Prop where
 bw:BW h id s g s2 (Es.cost (args.take i))
 iv:s2.iv=s.iv
 le:l.length=i/\i<=args.length
 gr:GR g id h.next 1 x l.length (l.map (IV.int .i64))
structure LoS where
 i:Nat
 g:Heap
 s:BSt
 c:Int
 jn:Nat
 bs:Y13
 w:Y12
 W:IV
 iW:Y10
 eW:Nat
 jo:Nat
 vo:Y12
 a:Int
 ks:Y12
 KS:IV
 jk:Nat
 lp:Int
def WQ(s:BSt)(w:Y12)(m:Nat):Prop:=(∀q∈w,0<=q/\q< (cK s.f).length)/\w.length<=m
def WF(x:LoS):Prop:=(x.W= .nilslice/\x.w=[]) \/ ∃i e,x.W= .vslice i e x.w.length 1 (x.w.map (IV.int .i64))
theorem GR.wf{h:Heap}{id b:Nat}{x:LoS}(r:GR h id b 1 x.W x.w.length (x.w.map (IV.int .i64))):WF x:=by
 rcases r with⟨r,_,q⟩|r| ⟨j,r,_⟩
 .exact .inl ⟨r,List.map_eq_nil_iff.1 q⟩
 .exact .inr ⟨_,_,r⟩
 .exact .inr ⟨_,_,r⟩
def JO(h:Heap)(s:BSt)(x:LoS):Prop:=x.g.get x.jo= .cells (x.vo.map (IV.int .i64))/\h.next<=x.jo/\x.jo<x.g.next/\x.jo≠x.s.iv/\x.vo.length=(cK s.f).length
structure LoP1(h:Heap)(id:Nat)(s:BSt)(x:LoS)(i:Nat)(t:E):Prop where
 bw:BW h id s x.g x.s t.cost
 am:AsP x.g id x.jn x.s x.bs
 jn:h.next<=x.jn
 le:i<=(cK s.f).length
 wq:WQ s x.w i
 gr:GR x.g id h.next 1 x.W x.w.length (x.w.map (IV.int .i64))
structure LoP2(h:Heap)(id:Nat)(s:BSt)(x:LoS)(j:Nat)(t:E):Prop where
 bw:BW h id s x.g x.s (t.cost+1+j)
 wq:WQ s x.w (cK s.f).length
 le:j<=x.w.length
 jo:JO h s x
 kl:x.ks.length=1+j
 gr:GR x.g id h.next 1 x.KS x.ks.length (x.ks.map (IV.int .i64))
theorem LoP2.w{h:Heap}{id j:Nat}{s:BSt}{x:LoS}{t:E}(p:LoP2 h id s x j t)(i:Nat)(W:IV):LoP2 h id s {x with i:=i,W:=W } j t:=⟨p.bw,p.wq,p.le,p.jo,p.kl,p.gr⟩
structure LoP3(h:Heap)(id:Nat)(s:BSt)(x:LoS)(j:Nat)(t:S):Prop where
 bw:BW h id s x.g x.s (t.cost-11)
 wq:WQ s x.w (cK s.f).length
 le:j<=x.w.length
 jo:JO h s x
 kl:x.ks.length=x.w.length+3+j
 tp:x.g.get x.jk= .tip x.ks.length/\x.jk<x.g.next/\h.next<=x.jk/\NL x.g id x.jk
theorem LoP3.w{h:Heap}{id j:Nat}{s:BSt}{x:LoS}{t:S}(p:LoP3 h id s x j t)(i:Nat)(W:IV):LoP3 h id s {x with i:=i,W:=W } j t:=⟨p.bw,p.wq,p.le,p.jo,p.kl,p.tp⟩
structure LoP4(h:Heap)(id:Nat)(s:BSt)(x:LoS)(j:Nat)(t:S):Prop where
 bw:BW h id s x.g x.s (t.cost-8+2*j)
 wq:WQ s x.w (cK s.f).length
 le:j<=x.w.length
 jo:x.jo=x.s.iv
structure LwS where
 ns:Y15
 lv:IV
 C:IV
 D:IV
 st:Int
 vs:Y12
def LwS.p(x:LwS)(g i:Y14):PSt:=⟨x.ns,.vslice none 0 2 2 g,.vslice none 0 2 9 i,x.C,x.D,.int .i64 x.st,.int .i64 0⟩
def LwS.cells(x:LwS)(g i:Y14):Y14:=(x.p g i).cells x.lv
structure LW(f:Int)(k m b:Nat)(h:Heap)(id:Nat)(g:Heap)(pa pf:Y14)(x:LwS):Prop where
 lt:id<h.next
 e:g.get id= .cells (x.cells pa pf)
 lv:LV g id x.lv x.ns
 nm:GR g id h.next 1 x.C k (((cK f).take k).map IV.str)
 vr:(m=0/\x.D= .nilslice) \/ ∃iv,x.D= .hslice iv 0 m 1/\g.get iv= .cells (x.vs.map (IV.int .i64))/\iv<g.next/\h.next<=iv
 vl:x.vs.length=m
 gl:GL x.ns
 n1:1<=x.ns.length/\x.ns.length<=b
 fv:FV id id h g
theorem LW.lt2{f:Int}{k m b id:Nat}{h g:Heap}{x:LwS}(w:LW f k m b h id g c d x):id<g.next:=AU w.lt w.fv.nx
theorem LW.cell{f:Int}{k m b id:Nat}{h g:Heap}{x:LwS}(w:LW f k m b h id g c d x):fO g id 4=some x.D:=by
 unfold fO
 rw [w.e];rfl
theorem LW.vrow{f:Int}{k m b id iv:Nat}{h g:Heap}{x:LwS}(w:LW f k m b h id g c d x)(hd:x.D= .hslice iv 0 m 1):g.get iv= .cells (x.vs.map (IV.int .i64))/\iv<g.next/\h.next<=iv:=by
 rcases w.vr with⟨_,q⟩| ⟨i,q,r⟩
 .rw [q]at hd;cases hd
 .rw [q]at hd;simp only [IV.hslice.injEq,true_and,and_true]at hd;exact hd▸r
theorem LW.name{f:Int}{k m b id bytes:Nat}{h g:Heap}{x:LwS}{s:Y11}{K:Nat->Nat->Nat->Y14->Heap->Prop}(w:LW f k m b h id g c d x)(L: ∃h:k< (cK f).length,s=(cK f)[k])(u:(k+1)*bytes<=140737488355328)
  (hK: ∀(j:Nat)(g2:Heap)(C:IV),C= .vslice (some j) ((k+1)*1) (k+1) 1 (((cK f).take k).map IV.str++ [.str s])->g2.get id= .cells (x.cells c d)->LW f (k+1) m b h id (g2.set id (.cells (({x with C:=C } :LwS).cells c d))) c d {x with C:=C } ->K j ((k+1)*1) (k+1) (((cK f).take k).map IV.str++ [.str s]) g2):
  dX g 1 bytes x.C 1 [.str s] K:=by
 obtain⟨hk,rfl⟩:=L;have e:((cK f).take (k+1)).map IV.str=((cK f).take k).map IV.str++ [.str (cK f)[k]]:=by
  rw [AO hk,BY];rfl
 refine w.nm.app u w.fv.nx w.e (λ_=>w.lv.nl w.lt2 w.e) λj g2 t r=>?_
 obtain⟨l,y⟩:=t.cl w.lt2 w.e;have A:FV id id h g2/\LV g2 id x.lv x.ns:=by
  rcases t with⟨o,rfl⟩| ⟨i,q,o,rfl,z,u,n⟩
  .exact⟨w.fv.push w.lt2,w.lv.push⟩
  .exact⟨w.fv.grow z (.inl u) (λq=>by rw [q,w.e]at z;cases z),w.lv.grow w.e n⟩
 have G:=(FV.refl (id:=id) (iv:=id) (h:=g2)).set (b:=({x with C:= .vslice (some j) ((k+1)*1) (k+1) 1 (((cK f).take k).map IV.str++ [.str (cK f)[k]]) } :LwS).cells c d) l rfl;refine hK j g2 _ rfl l ⟨w.lt,aH,A.2.set l,by rw [e];exact r.fv G,?_,w.vl,w.gl,w.n1,A.1.set l rfl⟩;rcases w.vr with v| ⟨iv,O,R,D,T⟩
 .exact .inl v
 .obtain⟨V,_⟩:=t.cl D R;have:=w.lt;exact .inr ⟨iv,O,(aG JZ).trans V,AU D y,T⟩
theorem LW.put{f:Int}{k m b id:Nat}{h g:Heap}{x:LwS}{op i:Int}{K:Int->Heap->Prop}(w:LW f k m b h id g c d x)(A:b<=1000)(r: ∀(v:Int)(g2:Heap)(ns:Y15)(lv:IV),LW f k m (b+1) h id g2 c d {x with ns:=ns,lv:=lv } ->K v g2)(ho:bE op:=by decide)(hm:bE i:=by decide):
  ∃(p:PSt)(lv:IV)(l:Y12),(0=l.length/\([]:Y14)=l.map (IV.int .i64))/\PutPre g id p lv op i l/\∀(v:Int)(h3:Heap)(lv:IV)(ns:Y15),PutPost g id p h3 lv ns->K v h3:=by
 have D:=w.n1;refine⟨x.p c d,x.lv,[],⟨rfl,rfl⟩,⟨w.lt2,w.e,w.lv,⟨ho,hm,AR _⟩,w.gl,show x.ns.length<=_ by omega⟩,λv g2 lv ns p=>r v g2 ns lv ⟨w.lt,p.g,p.lv,w.nm.fv p.fv,?_,w.vl,p.gl,?_,w.fv.trans p.fv (.inl rfl)⟩⟩
 .rcases w.vr with v| ⟨iv,u,y,j,z⟩
  .exact .inl v
  .have:=w.lt;exact .inr ⟨iv,u,p.fv.cl _ _ j JZ JZ y,AU j p.fv.nx,z⟩
 .have h1:ns.length<=x.ns.length+1:=p.ln.2;exact⟨p.ln.1,KE⟩
theorem LW.var{f:Int}{k m b id iv:Nat}{h g g2:Heap}{u y:Y14}{x:LwS}{v:Int}(w:LW f k m b h id g u y x)(K: ∀(j n:Nat),j<g.next->g.get j= .tip n->g2.get j= .tip n)(G:g.next<=g2.next)(hf:FV id id h g2)(i:g2.get id= .cells (x.cells u y))(A:g2.get iv= .cells ((x.vs++ [v]).map (IV.int .i64))/\iv<g2.next/\h.next<=iv):
  LW f k (m+1) b h id (g2.set id (.cells (({x with D:= .hslice iv 0 (m+1) 1,vs:=x.vs++ [v] } :LwS).cells u y))) u y {x with D:= .hslice iv 0 (m+1) 1,vs:=x.vs++ [v] } :=by
 have h0:=w.lt;refine⟨h0,aH,LV.set ?_ i,GR.fv ?_ ((FV.refl (id:=id) (iv:=id) (h:=g2)).set i rfl),.inr ⟨iv,rfl,(aG JZ).trans A.1,A.2.1,A.2.2⟩,by dsimp only;rw [AI,w.vl];rfl,w.gl,w.n1,hf.set i rfl⟩
 .rcases w.lv with l| ⟨R,T,V,L,X⟩
  .exact .inl l
  .exact .inr ⟨R,T,K _ _ L V,AU L G,X⟩
 .rcases w.nm with r|r| ⟨j,r1,Y,O,Z,r5⟩
  .exact .inl r
  .exact .inr (.inl r)
  .exact .inr (.inr ⟨j,r1,K _ _ O Y,AU O G,Z,λcs e a z c q=>r5 cs e a z c (by rw [w.e,<-i];exact q)⟩)
theorem LW.vr0{f:Int}{k m b id:Nat}{h g:Heap}{x:LwS}{v:Int}(w:LW f k m b h id g c d x)(hm:m=0):
  LW f k (m+1) b h id ((g.push (.cells [.int .i64 v])).set id (.cells (({x with D:= .hslice g.next 0 1 1,vs:=x.vs++ [v] } :LwS).cells c d))) c d {x with D:= .hslice g.next 0 1 1,vs:=x.vs++ [v] } :=by
 subst hm;have e:x.vs=[]:=CU w.vl;exact w.var (λj n i e=>(aO i).trans e) (DM _) (w.fv.push w.lt2) ((aO w.lt2).trans w.e) ⟨by rw [e];exact aW,AQ _,w.fv.nx⟩
theorem LW.vr1{f:Int}{k m b id iv:Nat}{h g:Heap}{x:LwS}{v:Int}(w:LW f k m b h id g c d x)(r:g.get iv= .cells (x.vs.map (IV.int .i64))/\iv<g.next/\h.next<=iv):
  LW f k (m+1) b h id (((g.set iv .dead).push (.cells (List.take (m*1) (x.vs.map (IV.int .i64))++ [.int .i64 v]))).set id (.cells (({x with D:= .hslice g.next 0 (m+1) 1,vs:=x.vs++ [v] } :LwS).cells c d))) c d {x with D:= .hslice g.next 0 (m+1) 1,vs:=x.vs++ [v] } :=by
 have h0:=w.lt;obtain⟨l,z,y⟩:=r;have i:id< (g.set iv .dead).next:=w.lt2;refine w.var (λj n u e=>(aO (show j< (g.set iv .dead).next from u)).trans ((aG (λq=>by rw [q,l]at e;cases e)).trans e)) (DM _) ((w.fv.put l JZ (.inr y)).push i) ((aO i).trans ((aG JZ).trans w.e)) ⟨aW.trans ?_,AQ _,w.fv.nx⟩;rw [AJ (by rw [AX,w.vl];omega),BY];rfl
theorem LW.fin{f:Int}{k b id:Nat}{h g:Heap}{x:LwS}(w:LW f k k b h id g c d x)(hk:k=(cK f).length)(u:vR c d): ∃s:BSt,s.f=f/\s.ns=x.ns/\BH g id s:=by
 have G:=uQ f;have h0:=w.lt;rcases w.vr with⟨h4,_⟩| ⟨iv,z,A,D,K⟩
 .omega
 have i: ∀(m:Y10)(l:Nat),x.C= .vslice m l k 1 (((cK f).take k).map IV.str)-> ∃s:BSt,s.f=f/\s.ns=x.ns/\BH g id s:=λm l e=>by
  refine⟨⟨c,d,f,x.ns,x.lv,m,l,iv,x.vs,x.st,0⟩,rfl,rfl,⟨w.lt2,w.e.trans ?_,w.lv,⟨D,KE,A⟩,w.gl,w.n1.1,by rw [w.vl,hk],u,by unfold bE;dsimp only;omega⟩⟩;have y:=w.vl;rw [LwS.cells,LwS.p,e,z,AJ JZ];simp only [BSt.cells,BSt.p,PSt.cells,y,hk]
 rcases w.nm with⟨_,r,_⟩|r| ⟨j,r,_⟩
 .omega
 .exact i _ _ r
 .exact i _ _ r
def lw0:LwS:=⟨[],.nilslice,.nilslice,.nilslice,0,[]⟩
theorem c8T{g:Heap} :PutPre (g.push (.cells (lw0.cells c d))) g.next (lw0.p c d) .nilslice 26 0 []:=
 ⟨AQ _,aW,.inl ⟨rfl,rfl⟩,⟨KA,KA,AR _⟩,λn h=>(by cases h),AR _⟩
theorem LW.init{f:Int}{g h2:Heap}{v:Int}{lv:IV}(p:PutPost (g.push (.cells (lw0.cells c d))) g.next (lw0.p c d) h2 lv A):
  LW f 0 0 1 (g.push (.cells (lw0.cells c d))) g.next (h2.set g.next (.cells ((⟨A,lv,.nilslice,.nilslice,v,[]⟩:LwS).cells c d))) c d ⟨A,lv,.nilslice,.nilslice,v,[]⟩:=
 ⟨AQ _,aH,p.lv.set p.g,.inl ⟨rfl,rfl,rfl⟩,.inl ⟨rfl,rfl⟩,rfl,p.gl,p.ln,p.fv.set p.g rfl⟩
structure Gr where
 nm:Y11
 np:Int
 ns:Y15
 v:Int
 st:Int
structure GrOk(g:Gr):Prop where
 gl:GL g.ns
 ln:1<=g.ns.length/\g.ns.length<=2000
def gC(g:Gr):Y14:=[.str g.nm,.int .i64 g.np,.vslice none 0 g.ns.length 3 (g.ns.flatMap cN),.int .i64 g.v,.int .i64 g.st]
def Qy(n:Nat)(c:Y14):Prop:= ∃L:List Gr,L.length=n/\(∀g∈L,GrOk g)/\c=L.flatMap gC
def a1W(c:Y14):Prop:=Qy 2 c
theorem a6S: ∀L:List Gr,aQ (L.flatMap gC)=true
 | []=>rfl
 |g::r=>by
  rw [BF,bF,a6S r];simp only [aQ,aY,gC,bX,AN]
theorem Qy.pure{n:Nat}{c:Y14}(h:Qy n c):aQ c=true:=by
 obtain⟨L,_,_,rfl⟩:=h;exact a6S L
theorem Qy.snoc{n:Nat}{c:Y14}{g:Gr}(h:Qy n c)(i:GrOk g):Qy (n+1) (c++gC g):=by
 obtain⟨L,h1,h2,rfl⟩:=h;refine⟨L++ [g],by rw [AI,h1];rfl,λx j=>?_,KB⟩;rcases BZ.1 j with q|q
 .exact h2 x q
 .rw [BU.1 q];exact i
structure FnD where
 i:Nat
 F:IV
 fc:Y14
 h:Heap
 id:Nat
 nm:Y11
 pc:List (Y11)
 lc:List (Y11)
 b:List S
 ek:Int
 en:Int
 enm:Y11
 eop:Int
 eks:List E
structure FnP(x:FnD):Prop where
 p:x.pc++x.lc=cK x.i
 gb:GB x.i x.b (.mk x.ek x.en x.enm x.eop x.eks)
 i:x.i<2
 gs:Qy x.i x.fc
 gr:GR x.h x.id 0 5 x.F x.i x.fc
def FnD.fn(x:FnD):Y14:=[.str x.nm,.vslice none 1 x.pc.length 1 (x.pc.map IV.str),.vslice none 1 x.lc.length 1 (x.lc.map IV.str),.vslice none 0 x.b.length 17 (bI x.b),.int .i64 x.ek,.int .i64 x.en,.str x.enm,.int .i64 x.eop,.vslice none 0 x.eks.length 5 (bP x.eks)]
theorem e8B{R D:Y14}(O:vR R D){i:Nat}(L:i<2)(F:IV)(g:Y14)(h:Heap)(id:Nat): ∃x:FnD,(x.i=i/\x.F=F/\x.fc=g/\x.h=h/\x.id=id)/\(x.pc++x.lc=cK x.i/\GB x.i x.b (.mk x.ek x.en x.enm x.eop x.eks))/\∀j,j<9->D[i*9+j]?=x.fn[j]?:=by
 obtain⟨Z,lb,G,⟨T,V,r,u,m⟩,K,⟨X,Y,z,A,y⟩,⟨_,h0,h1⟩,_,rfl⟩:=O
 match i,L with
 |0,_=>exact⟨⟨0,F,g,h,id,[102],[[120],[121]],[[105],[106]],G,T,V,r,u,m⟩,⟨rfl,rfl,rfl,rfl,rfl⟩,⟨rfl,h0⟩,λj l=>match j,l with
  |0,_|1,_|2,_|3,_|4,_|5,_|6,_|7,_|8,_=>rfl⟩
 |1,_=>exact⟨⟨1,F,g,h,id,[103],[[110]],[[105]],K,X,Y,z,A,y⟩,⟨rfl,rfl,rfl,rfl,rfl⟩,⟨rfl,h1⟩,λj l=>match j,l with
  |0,_|1,_|2,_|3,_|4,_|5,_|6,_|7,_|8,_=>rfl⟩
structure LwP(ac fc:Y14)(g:Heap)(k:Nat)(x:FnD)(y:LwS):Prop where
 fn:FnP x
 le:k<=x.pc.length
 w:LW x.i k k (1+k) x.h x.id g ac fc y
structure LwQ(ac fc:Y14)(g:Heap)(k:Nat)(x:FnD)(y:LwS):Prop where
 fn:FnP x
 le:k<=x.lc.length
 w:LW x.i (x.pc.length+k) (x.pc.length+k) (1+(x.pc.length+k)) x.h x.id g ac fc y
structure LwO(g:Heap)(i:Nat)(F:IV)(c:Y14):Prop where
 le:i<=2
 gs:Qy i c
 f:(F= .nilslice/\i=0/\c=[]) \/ ∃j,F= .vslice (some j) (i*5) i 5 c/\g.get j= .tip (i*5)/\j<g.next
theorem LwO.gr{g:Heap}{i:Nat}{F:IV}{c u y:Y14}(o:LwO g i F c):GR (g.push (.cells (lw0.cells u y))) g.next 0 5 F i c:=by
 rcases o.f with r| ⟨j,r1,A,l⟩
 .exact .inl r
 .refine .inr (.inr ⟨j,r1,(aO l).trans A,BO l,AR _,λcs e n z c q m=>?_⟩);rw [aW,IObj.cells.injEq]at q;subst q
  cases m
theorem e8P{g i l:List (Y11)}(h:g++i=l){k:Nat}(hk:k<g.length): ∃h:k<l.length,g[k]=l[k]:=by
 subst h;exact⟨by rw [AI];omega,(IH hk).symm⟩
theorem e8O{i g l:List (Y11)}(h:i++g=l){k:Nat}(hk:k<g.length): ∃h:i.length+k<l.length,g[k]=l[i.length+k]:=by
 subst h;refine⟨by rw [AI];omega,?_⟩;rw [IA JZ];simp
end Go.M10
end
end
