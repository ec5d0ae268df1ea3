/-
  Texts of this proof, one after the other.
  Conditions: none.
-/
import Derived.Test.YtkonebkblgemkaaGreatW6
set_option linter.unusedVariables false
set_option linter.unusedSimpArgs false
set_option maxRecDepth 100000
set_option maxHeartbeats 4000000
noncomputable section
variable{i j m b:Nat}{x y z u v:Int}{h g:Go.Pv.Heap}{c d l:List Go.Pv.IV}{A B C:List Go.M15.Nd}{K L:Y12}{s t:Go.Pv.IV}{D:Go.Pv.Meta}{V W:List Go.Value}{T U:Go.TypeId}{o:Bool}{X Y:Go.Value}{r:Y11}{O:Go.Oper}{N:Y10}{H:Array Go.Value}
section
namespace Go.M10
open Go.M15 Go.Pv
def E7(op:Int):Y12:=if op=22 then [1,1,1]else if op=23\/op=27\/op=29 then [2,1]else if op=28 then [2,1,1]else if op=24 then [2]else if op=25 then [3]else [1,1]
def E0(op:Int)(s:Y12):Bool:=vP op&& (decide ((s.length:Int)=ar op) && (if op=22/\s.getD 1 0=2 then decide (s=[1,2,2])else decide (s=(E7 op).take s.length)))
theorem Om{op:Int}(h:vP op=true)(h3:op≠25/\op≠30/\op≠31):(op=1\/op=2\/op=26) \/op=3\/op=22\/op=23\/op=24\/ (op=27\/op=29) \/op=28\/ (4<=op/\op<=19) \/ (op=20\/op=21):=by
 unfold vP at h;rw [decide_eq_true_eq]at h;omega
def svo(op g:Int)(k:Y12):Int:=if op=26\/op=27\/op=28\/op=29 then 2 else if op=22 then k.getD 1 0 else if op=3 then(if g.tmod 16=0 then 2 else 1)else 1
theorem e8H{k:Y12}(h:(k.length:Int)=0):k=[]:=CU JZ
theorem e8I{k:Y12}(h:(k.length:Int)=1): ∃a,k=[a]:=by
 match k,h with
 | [a],_=>exact⟨a,rfl⟩
theorem e0X{k:Y12}(h:(k.length:Int)=2): ∃a b,k=[a,b]:=by
 match k,h with
 | [a,b],_=>exact⟨a,b,rfl⟩
theorem e0Y{k:Y12}(h:(k.length:Int)=3): ∃a b c,k=[a,b,c]:=by
 match k,h with
 | [a,b,c],_=>exact⟨a,b,c,rfl⟩
theorem c0X{op g:Int}{k:Y12}(h3:op≠25/\op≠30/\op≠31)(i: ∀x∈k,1<=x/\x<=3):gN op g k=if E0 op k=true/\jQ op g=true then svo op g k else 0:=by
 by_cases hi:jQ op g=true
 case neg=>
  rw [if_neg (λe=>hi e.2)];unfold gN
  rw [if_pos (.inr (.inr (by simpa using hi)))]
 by_cases ha:vP op=true
 case neg=>
  rw [if_neg (λe=>by unfold E0 at e;simp [ha]at e)];unfold gN
  rw [if_pos (.inl (by simpa using ha))]
 by_cases hl:(k.length:Int)=ar op
 case neg=>
  rw [if_neg (λe=>by unfold E0 at e;simp [hl]at e)];unfold gN
  rw [if_pos (.inr (.inl hl))]
 rw [Ny h3 ha hl hi];have j:E0 op k=(if op=22/\k.getD 1 0=2 then decide (k=[1,2,2])else decide (k=(E7 op).take k.length)):=by
  unfold E0
  rw [ha,decide_eq_true hl];rfl
 rw [j,hi];rcases Om ha h3 with h|rfl|rfl|rfl|rfl|h|rfl|h|h
 .have h0:ar op=0:=by unfold ar;rw [if_pos JZ]
  obtain rfl:=e8H (hl.trans h0);rcases h with rfl|rfl|rfl<;>simp [svo,E7]
 .obtain rfl:=e8H (hl.trans KA);have hm:0<=g:=by
   unfold jQ at hi;rw [decide_eq_true_eq]at hi;have:Ab 3=255:=KA;omega
  simp [svo,E7,CH hm]
 .obtain⟨a,b,c,rfl⟩:=e0Y (hl.trans KA);have r1:=i a KB;have l:=i b KB;have m:=i c KB;simp only [svo,E7,JN,JP,AS,BL,List.take,BE,and_true,true_and,reduceIte]
  by_cases hb:b=2
  .subst hb;simp
   by_cases e1:a=1<;>by_cases e2:c=2<;>simp [e1,e2]<;>omega
  .simp [hb]
   by_cases e1:a=1<;>by_cases e2:b=1<;>by_cases e3:c=1<;>simp [e1,e2,e3]<;>omega
 .obtain⟨a,b,rfl⟩:=e0X (hl.trans KA);simp [svo,E7]
 .obtain⟨a,rfl⟩:=e8I (hl.trans KA);simp [svo,E7]
 .have h0:ar op=2:=by rcases h with rfl|rfl<;>decide
  obtain⟨a,b,rfl⟩:=e0X (hl.trans h0);rcases h with rfl|rfl<;>simp [svo,E7]
 .obtain⟨a,b,c,rfl⟩:=e0Y (hl.trans KA);simp [svo,E7]
 .have h0:ar op=2:=by unfold ar;rw [if_neg JZ,if_neg JZ,if_pos JZ]
  obtain⟨a,b,rfl⟩:=e0X (hl.trans h0);have ho:E7 op=[1,1]:=by unfold E7;rw [if_neg JZ,if_neg JZ,if_neg JZ,if_neg JZ,if_neg JZ]
  rw [ho];have n:op≠3/\op≠26/\op≠22/\op≠23/\op≠24/\op≠27/\op≠28/\op≠29:=JZ;simp [svo,n]
 .have h0:ar op=1:=by unfold ar;rw [if_neg JZ,if_pos JZ]
  obtain⟨a,rfl⟩:=e8I (hl.trans h0);have ho:E7 op=[1,1]:=by unfold E7;rw [if_neg JZ,if_neg JZ,if_neg JZ,if_neg JZ,if_neg JZ]
  rw [ho];have n:op≠3/\op≠26/\op≠22/\op≠23/\op≠24/\op≠27/\op≠28/\op≠29:=JZ;simp [svo,n]
theorem e1Z{op:Int}(h:vP op=true)(h3:op≠25/\op≠30/\op≠31):0<=ar op/\ar op<=((E7 op).length:Int):=by
 grind [Om,ar,E7,vP]
theorem b1Y{op g:Int}{k:Y12}(i: ∀x∈k,1<=x/\x<=3):0<=gN op g k/\gN op g k<=3:=by
 unfold gN
 repeat' split
 all_goals try omega
 rename_i h1 h2 h3 h4 j;have:k.getD 1 0=0\/k.getD 1 0∈k:=by
  rw [AH];rcases BK 1 k.length with q|q
  .rw [AB q];exact .inr (AG q)
  .rw [BP q];exact .inl rfl
 rcases this with q|q
 .omega
 .have:=i _ q;omega
def lsL(m:Nat):Y12:=2::(List.replicate m 1++2::List.replicate (m-1) 1)
def vS(k:Y12):Bool:=decide (k.length%2=1) && (decide (3<=k.length) && (decide (k.length<=33) &&decide (k=lsL (k.length/2))))
def zX(k:Y12):Bool:=match k with
 | []=>false
 |a::r=>decide (r.length<=6) && (decide (a=2) &&r.all λx=>decide (x=1))
def bW(e:Nat)(op g:Int)(k:Y12):Int:=
 if op=31 then(if vS k=true/\jQ 31 g=true then 3 else 0)
 else if op=30 then(if zX k=true/\jQ 30 g=true then 2 else 0)
 else if op=25 then(if k=[3]/\0<=g/\g<=15/\2*g+3<=e then(if g=0 then 2 else 1)else 0)
 else gN op g k
def eK(l:Y15)(n:Nd):Nat:=(l.getD (n.ks.getD 0 0).toNat default).ks.length
def cH(l:Y15)(g:Y12)(n:Nd):Int:=if n.ks.all (dY g)=true then bW (eK l n) n.op n.im (n.ks.map λq=>g.getD q.toNat 0)else 0
def gB:Y15->Y12->Y15->Y12
 |_,out,[]=>out
 |p,out,n::r=>gB (p++ [n]) (out++ [cH p out n]) r
def aD(l:Y15):Y12:=gB [] [] l
theorem Aj(n:Nd): ∀(l p:Y15)(g:Y12),gB p g (l++ [n])=gB p g l++ [cH (p++l) (gB p g l) n]
 | [],p,g=>by
  rw [CZ];rfl
 |x::l,p,g=>by
  rw [CV,gB,gB,Aj n l,BV,HB]
theorem lI(l:Y15)(n:Nd):aD (l++ [n])=aD l++ [cH l (aD l) n]:=by
 have:=Aj n l [] []
 rwa [DG]at this
theorem Fx: ∀(l p:Y15)(g:Y12),(gB p g l).length=g.length+l.length
 | [],p,g=>rfl
 |x::l,p,g=>by
  rw [gB,Fx l];simp only [AI,AS,BL];omega
theorem bA(l:Y15):(aD l).length=l.length:=by unfold aD;rw [Fx];simp
theorem Fy: ∀(l p:Y15)(g:Y12),g<+:gB p g l
 | [],p,g=>ES _
 |x::l,p,g=>(DV _ _).trans (Fy l _ _)
theorem Fw: ∀(l r p:Y15)(g:Y12),gB p g (l++r)=gB (p++l) (gB p g l) r
 | [],r,p,g=>by rw [CZ];rfl
 |x::l,r,p,g=>by rw [CV,gB,gB,Fw l r,BV,HB]
theorem pP{l y:Y15}(h:l<+:y):aD l<+:aD y:=by
 obtain⟨r,rfl⟩:=h;unfold aD
 rw [Fw];exact Fy _ _ _
theorem bR{l:Y15}{i:Nat}(h:i<l.length):aD (l.take (i+1))=aD (l.take i)++ [cH (l.take i) (aD (l.take i)) l[i]]:=by
 rw [AO h,lI]
theorem bY{p:Y15}{n:Nd}{q:Int}(hm:q∈n.ks)(h:dY K q=false):cH p K n=0:=by
 grind [cH,dY,CF.1]
def T4(l:Y15)(i j:Nat)(k:Y12):Prop:= ∃n,l[i]?=some n/\(j<=n.ks.length/\k.length=j)/\(n.ks.take j).all (dY (aD (l.take i)))=true/\k=(n.ks.take j).map λq=>(aD (l.take i)).getD q.toNat 0
theorem T4.zero{l:Y15}{i:Nat}(h:i<l.length):T4 l i 0 []:=⟨l[i],AB h,⟨AR _,rfl⟩,rfl,rfl⟩
theorem T4.step{l:Y15}{i j:Nat}{k:Y12}(h:T4 l i j k)(m:i<l.length)(g:j<l[i].ks.length)(r:dY (aD (l.take i)) l[i].ks[j]=true):T4 l i (j+1) (k++ [(aD (l.take i)).getD (l[i].ks[j]).toNat 0]):=by
 obtain⟨n,h1,h2,h3,h4⟩:=h;obtain rfl:l[i]=n:=by rw [AB m]at h1;exact AV h1
 refine⟨_,h1,⟨g,by simp [h2.2]⟩,?_,?_⟩
 .rw [AO g,List.all_append,h3];simp [r]
 .rw [AO g,BY,h4];rfl
theorem G8{q:Int}(h:dY K q=true):0<=q/\q<K.length/\K.getD q.toNat 0≠0:=by
 unfold dY at h;simp only [AE,decide_eq_true_eq]at h;exact h
theorem sG{k:Y12}(h:vS k=true):k.length%2=1/\3<=k.length/\k.length<=33/\k=lsL (k.length/2):=by
 unfold vS at h;simp only [AE,decide_eq_true_eq]at h;exact h
theorem a7L{m:Nat}(h:1<=m):(lsL m).length=2*m+1:=by
 unfold lsL
 simp;omega
theorem a7M{m:Nat}(h1:1<=m)(h2:m<=16):vS (lsL m)=true:=by
 unfold vS
 rw [a7L h1,show(2*m+1)/2=m by omega];simp only [AE,decide_eq_true_eq];exact⟨JZ,JZ,JZ,trivial⟩
theorem b1W{op g:Int}{k:Y12} :gN op g k≠3:=by
 unfold gN
 repeat' split
 all_goals omega
theorem Ew{e:Nat}{op g:Int}{k:Y12}(h:bW e op g k=3):op=31/\vS k=true:=by
 grind [bW,b1W,vS]
theorem zK: ∀{l:Y15}{j:Nat}{n:Nd},l[j]?=some n->(aD l).getD j 0=cH (l.take j) (aD (l.take j)) n:=by
 intro l j n h;obtain⟨g,rfl⟩:=BT.1 h;have e:l.take (j+1)=l.take j++ [l[j]]:=AO g;have h1:=lI (l.take j) l[j];rw [<-e]at h1;have h2:=I8 (pP (GZ (j+1) l)) (i:=j) (by rw [bA,AW];omega);rw [h2,h1,AH,BC (by rw [bA,AW];omega),bA,AW,show j-min j l.length=0 by omega];rfl
theorem Fu{l:Y15}{q:Nat}(h:(aD l).getD q 0=3):(l.getD q default).ks.length%2=1:=by
 rcases BK q l.length with c|c
 .have g:=AB c;rw [zK g]at h;unfold cH at h;split at h
  .have:=sG (Ew h).2;rw [AX]at this;rw [AH,g];exact this.1
  .omega
 .rw [AH,BP (by rw [bA];exact c)]at h
  cases h
theorem sN{l:Y15}{i q:Nat}(h:q<i):(l.take i).getD q default=l.getD q default:=by
 grind
theorem T4.last{l:Y15}{i j:Nat}{k:Y12}(h:T4 l i j k)(z:i<l.length)(A:l[i].ks.length<=j):
  cH (l.take i) (aD (l.take i)) l[i]=bW (eK (l.take i) l[i]) l[i].op l[i].im k/\k.length=l[i].ks.length/\(∀q∈l[i].ks,0<=q/\q<i)/\(k=[3]->eK l l[i]%2=1/\eK (l.take i) l[i]=eK l l[i]):=by
 obtain⟨n,h1,h2,h3,h4⟩:=h;obtain rfl:l[i]=n:=by rw [AB z]at h1;exact AV h1
 rw [AJ A]at h3 h4;have g: ∀q∈l[i].ks,0<=q/\q<i:=λq g=>by
  have:=G8 (CF.1 h3 q g);rw [bA,AW]at this;omega
 refine⟨?_,by rw [h4];simp,g,λe=>?_⟩
 .unfold cH
  rw [if_pos h3,h4]
 .rw [e]at h4
  cases hk:l[i].ks with
  |nil=>rw [hk]at h4;cases h4
  |cons q r=>
   rw [hk,BN,BE]at h4;have D:=g q (by rw [hk];exact BG);have y:=Fu h4.1.symm;have m:eK (l.take i) l[i]=((l.take i).getD q.toNat default).ks.length:=by unfold eK;rw [hk];rfl
   have u:eK l l[i]=(l.getD q.toNat default).ks.length:=by unfold eK;rw [hk];rfl
   rw [sN JZ]at y m;exact⟨by rw [u];exact y,by rw [m,u]⟩
theorem e7H{k:Y12}(h:(k.all λx=>decide (x=1))=true):k=List.replicate k.length 1:=List.eq_replicate_iff.2 ⟨rfl,λx g=>by simpa using CF.1 h x g⟩
theorem c8Q{k:Y12}{m:Nat}(hm:k.length=2*m+1)(h1:1<=m)(h2:m<=16)(h3:k[0]?=some 2)(h4:(((k.drop 1).take m).all λx=>decide (x=1))=true)(i:k[m+1]?=some 2)(r:((k.drop (m+2)).all λx=>decide (x=1))=true):vS k=true:=by
 cases k with
 |nil=>cases h3
 |cons a t=>
  simp only [AS]at hm;rw [List.getElem?_cons_zero,AC]at h3;rw [GJ]at i;rw [EF,DB]at h4;rw [show m+2=(m+1)+1 by omega,EF]at r;have g:m<t.length:=JZ;have hd:t.drop m=2::t.drop (m+1):=by
   rw [List.drop_eq_getElem_cons g];rw [AB g,AC]at i;rw [i]
  have j:=e7H h4;have l:=e7H r;rw [AW,FZ JZ]at j;rw [DJ,show t.length- (m+1)=m-1 by omega]at l;have u:t=List.replicate m 1++2::List.replicate (m-1) 1:=by
   rw [<-j,<-l,<-hd,DQ]
  rw [u,h3];exact a7M h1 h2
theorem e1B{k:Y12}(h:vS k=true):k[0]?=some 2/\(((k.drop 1).take (k.length/2)).all λx=>decide (x=1))=true/\k[k.length/2+1]?=some 2/\((k.drop (k.length/2+2)).all λx=>decide (x=1))=true:=by
 obtain⟨h1,h2,h3,h4⟩:=sG h;generalize k.length/2=m at h4;subst h4;unfold lsL
 refine⟨rfl,?_,?_,?_⟩
 .simp
 .simp
 .rw [EF,IE];simp
theorem Ey{e g:Nat}{op i:Int}{k:Y12}(h:k=[3]->e=g):bW e op i k=bW g op i k:=by
 unfold bW
 by_cases c:k=[3]
 .rw [h c]
 .simp [c]
theorem T4.lst{l:Y15}{i j:Nat}{k:Y12}(h:T4 l i j k)(g:i<l.length)(m:l[i].ks.length<=j):
  cH (l.take i) (aD (l.take i)) l[i]=bW (eK l l[i]) l[i].op l[i].im k/\k.length=l[i].ks.length/\(∀q∈l[i].ks,0<=q/\q<l.length)/\(k=[3]->eK l l[i]%2=1):=by
 obtain⟨h1,h2,h3,h4⟩:=h.last g m;exact⟨h1.trans (Ey λe=>(h4 e).2),h2,λq r=>by have:=h3 q r;omega,λe=>(h4 e).1⟩
theorem a3T{e:Nat}{op g:Int}{k:Y12}(i: ∀x∈k,1<=x/\x<=3):0<=bW e op g k/\bW e op g k<=3:=by
 unfold bW
 repeat' split
 all_goals first|omega|exact b1Y i
theorem a4O{p:Y15}{n:Nd}(h: ∀x∈K,0<=x/\x<=3):0<=cH p K n/\cH p K n<=3:=by
 unfold cH
 split
 .rename_i i;refine a3T λx l=>?_
  obtain⟨q,j,rfl⟩:=DU.1 l;obtain⟨r,u,m⟩:=G8 (CF.1 i q j);have g:q.toNat<K.length:=JZ;have e:K.getD q.toNat 0=K[q.toNat]:=by rw [AH,AB g];rfl
  have:=h _ (AG g);rw [e]at m⊢;omega
 .omega
theorem Fz: ∀(l p:Y15)(g:Y12),(∀x∈g,0<=x/\x<=3)-> ∀x∈gB p g l,0<=x/\x<=3
 | [],p,g,h=>h
 |n::r,p,g,h=>by
  rw [gB];refine Fz r _ _ λx i=>?_
  rcases BZ.1 i with i|i
  .exact h x i
  .rw [BU.1 i];exact a4O h
theorem Fv(l:Y15): ∀x∈aD l,0<=x/\x<=3:=Fz l [] [] (λx h=>by cases h)
theorem T4.rng{l:Y15}{i j:Nat}{k:Y12}(h:T4 l i j k): ∀x∈k,1<=x/\x<=3:=by
 obtain⟨n,h1,h2,h3,h4⟩:=h;intro x m;rw [h4]at m;obtain⟨q,r,rfl⟩:=DU.1 m;obtain⟨y,z,u⟩:=G8 (CF.1 h3 q r);have g:q.toNat< (aD (l.take i)).length:=JZ;have e:(aD (l.take i)).getD q.toNat 0=(aD (l.take i))[q.toNat]:=by rw [AH,AB g];rfl
 have:=Fv _ _ (AG g);rw [e]at u⊢;omega
theorem Y0{l:Y15}{q:Nat}(h:(aD l).getD q 0=3):q<l.length/\3<=(l.getD q default).ks.length/\(l.getD q default).ks.length<=33:=by
 rcases BK q l.length with c|c
 .have g:=AB c;rw [zK g]at h;unfold cH at h;split at h
  .have:=sG (Ew h).2;rw [AX]at this;rw [AH,g];exact⟨c,this.2.1,this.2.2.1⟩
  .omega
 .rw [AH,BP (by rw [bA];exact c)]at h
  cases h
def Ge(op:Int)(s:Y12):Bool:=if op=31 then vS s else if op=25 then decide (s=[3])else E0 op s
def Ak(e:Nat)(op g:Int):Bool:=if op=25 then decide (0<=g/\2*g+3<=e)else jQ op g
def Bg(op g:Int)(k:Y12):Int:=if op=31 then 3 else if op=25 then(if g=0 then 2 else 1)else svo op g k
theorem b1V{e:Nat}{op g:Int}{k:Y12}(i:op≠30)(l: ∀x∈k,1<=x/\x<=3)(j:k=[3]->e<=33):bW e op g k=if Ge op k=true/\Ak e op g=true then Bg op g k else 0:=by
 grind [bW,Ge,Ak,Bg,c0X]
inductive E where
 |mk (k n:Int) (nm:Y11) (op:Int) (ks:List E)
 deriving Inhabited
inductive S where
 |mk (k:Int) (nm to:Y11) (n:Int) (a v:E) (args:List E) (th el:List S)
 deriving Inhabited
mutual
def cE:E->Y14
 | .mk k n nm op ks=>[.int .i64 k,.int .i64 n,.str nm,.int .i64 op,.vslice none 0 ks.length 5 (bP ks)]
def bP:List E->Y14
 | []=>[]
 |e::r=>cE e++bP r
end
mutual
def cS:S->Y14
 | .mk k nm to n a v args th el=>[.int .i64 k,.str nm,.str to,.int .i64 n]++cE a++cE v++ [.vslice none 0 args.length 5 (bP args),.vslice none 0 th.length 17 (bI th),.vslice none 0 el.length 17 (bI el)]
def bI:List S->Y14
 | []=>[]
 |s::r=>cS s++bI r
end
def E.k:E->Int| .mk k _ _ _ _=>k
def E.n:E->Int| .mk _ n _ _ _=>n
def E.nm:E->Y11| .mk _ _ nm _ _=>nm
def E.op:E->Int| .mk _ _ _ op _=>op
def E.ks:E->List E| .mk _ _ _ _ ks=>ks
def e0:E:= .mk 0 0 [] 0 []
theorem Pl(e:E):(cE e).length=5:=by cases e;rfl
theorem a1C(s:S):(cS s).length=17:=by
 cases s
 simp only [cS,AI,AS,BL,Pl]
theorem Df: ∀(a b:List S),bI (a++b)=bI a++bI b
 | [],b=>rfl
 |x::a,b=>by simp only [CV,bI,Df a b,BV]
theorem U3: ∀{ks:List E}{i j:Nat}(h:i<ks.length),j<5->(bP ks)[i*5+j]?=(cE ks[i])[j]?
 |t::r,0,j,h,hj=>by
  rw [bP,FK,AY,BM (by rw [Pl];exact hj)];rfl
 |x::r,i+1,j,h,hj=>by
  rw [bP,BC (by rw [Pl];omega),Pl,show(i+1)*5+j-5=i*5+j by omega];exact U3 (ks:=r) (by simpa using h) hj
theorem U8: ∀{ks:List S}{i j:Nat}(h:i<ks.length),j<17->(bI ks)[i*17+j]?=(cS ks[i])[j]?
 |t::r,0,j,h,hj=>by
  rw [bI,FK,AY,BM (by rw [a1C];exact hj)];rfl
 |x::r,i+1,j,h,hj=>by
  rw [bI,BC (by rw [a1C];omega),a1C,show(i+1)*17+j-17=i*17+j by omega];exact U8 (ks:=r) (by simpa using h) hj
theorem ldE{ks:List E}{i o:Nat}{K:Int->Int->Y11->Int->Y10->Nat->Nat->Y14->Prop}(h:i<ks.length)(ho:o=i*5)
  (hk:K ks[i].k ks[i].n ks[i].nm ks[i].op none 0 ks[i].ks.length (bP ks[i].ks)):
  aN .i64 (bP ks) o λa=>aN .i64 (bP ks) (o+1) λb=>dU (bP ks) (o+1+1) λc=>aN .i64 (bP ks) (o+1+1+1) λd=>bM 5 (bP ks) (o+1+1+1+1) λp q r s=>K a b c d p q r s:=by
 subst ho;have e0:=U3 (j:=0) h JZ;have g:=U3 (j:=1) h JZ;have l:=U3 (j:=2) h JZ;have m:=U3 (j:=3) h JZ;have u:=U3 (j:=4) h JZ;generalize ks[i]=t at*
 cases t
 unfold aN dU bM
 simp only [HC]at e0;simp only [EY,Nat.reduceAdd,e0,g,l,m,u];exact hk
mutual
theorem I9: ∀e:E,aQ (cE e)=true
 | .mk k n nm op ks=>by simp only [cE,aQ,aY,bV ks,AN]
theorem bV: ∀ks:List E,aQ (bP ks)=true
 | []=>rfl
 |t::r=>by simp only [bP,bF,I9 t,bV r,AN]
end
mutual
theorem c2Z: ∀s:S,aQ (cS s)=true
 | .mk k nm to n a v args th el=>by simp only [cS,aQ,aY,bF,I9,bV,bK th,bK el,AN]
theorem bK: ∀ks:List S,aQ (bI ks)=true
 | []=>rfl
 |t::r=>by simp only [bI,bF,c2Z t,bK r,AN]
end
def cK(f:Int):List (Y11):=if f=0 then [[120],[121],[105],[106]]else [[110],[105]]
def zW:List (Y11):=[[97],[98]]
def Lz(f k n:Int)(nm:Y11)(op:Int)(m:Nat):Prop:=
 (k=1/\nm=[]/\op=0/\m=0/\bE n) \/ (k=2/\n=0/\op=0/\m=0/\nm∈cK f) \/ (k=3/\n=0/\op=0/\m=1/\nm∈zW) \/
 (k=4/\n=0/\nm=[]/\((m=2/\4<=op/\op<=18) \/ (m=1/\20<=op/\op<=21))) \/ (k=5/\n=0/\nm=[]/\op=0/\m=3)
mutual
def E.wf(f:Int):E->Prop
 | .mk k n nm op ks=>Lz f k n nm op ks.length/\Es.wf f ks
def Es.wf(f:Int):List E->Prop
 | []=>True
 |e::r=>e.wf f/\Es.wf f r
end
mutual
def E.dp:E->Nat
 | .mk _ _ _ _ ks=>Es.dp ks
def Es.dp:List E->Nat
 | []=>0
 |e::r=>max (1+e.dp) (Es.dp r)
end
mutual
def E.cost:E->Nat
 | .mk k _ _ _ ks=>(if k=2\/k=0 then 0 else 4)+Es.cost ks
def Es.cost:List E->Nat
 | []=>0
 |e::r=>e.cost+Es.cost r
end
def qS(f k:Int)(nm i:Y11)(n:Int)(a v:E)(g:List E)(l j:List S):Prop:=
 (k=1/\nm∈cK f/\i=[]/\n=0/\a=e0/\v.wf f/\g=[]/\l=[]/\j=[]) \/
 (k=2/\nm∈zW/\i=[]/\n=0/\a.wf f/\v.wf f/\g=[]/\l=[]/\j=[]) \/
 (k=3/\nm=[]/\i=[]/\n=0/\a=e0/\v.wf f/\g=[]) \/
 (k=4/\nm=[]/\i=[]/\n=0/\a=e0/\v.wf f/\g=[]/\j=[]) \/
 (k=5/\nm=[]/\i=[]/\n=0/\a=e0/\v.wf f/\g=[]/\l=[]/\j=[]) \/
 (k=6/\nm∈cK f/\((i=[102]/\g.length=2) \/ (i=[103]/\g.length=1))/\n=0/\a=e0/\v=e0/\Es.wf f g/\l=[]/\j=[]) \/
 (k=7/\nm=[]/\i=[]/\(0<=n/\n<1000)/\a=e0/\v=e0/\g=[]/\l=[]/\j=[])
mutual
def S.wf(f:Int):S->Prop
 | .mk k nm to n a v args th el=>qS f k nm to n a v args th el/\Ss.wf f th/\Ss.wf f el
def Ss.wf(f:Int):List S->Prop
 | []=>True
 |s::r=>s.wf f/\Ss.wf f r
end
mutual
def S.cnt:S->Nat
 | .mk _ _ _ _ _ _ _ th el=>1+Ss.cnt th+Ss.cnt el
def Ss.cnt:List S->Nat
 | []=>0
 |s::r=>s.cnt+Ss.cnt r
end
mutual
def S.whl:S->Nat
 | .mk k _ _ _ _ _ _ th el=>(if k=4 then 1 else 0)+Ss.whl th+Ss.whl el
def Ss.whl:List S->Nat
 | []=>0
 |s::r=>s.whl+Ss.whl r
end
mutual
def S.dp(d:Nat):S->Nat
 | .mk _ _ _ _ _ _ _ th el=>max d (max (Ss.dp (d+1) th) (Ss.dp (d+1) el))
def Ss.dp(d:Nat):List S->Nat
 | []=>0
 |s::r=>max (s.dp d) (Ss.dp d r)
end
mutual
def S.ed(m:Nat):S->Prop
 | .mk _ _ _ _ a v args th el=>(a.dp<=m/\v.dp<=m/\∀e∈args,e.dp<=m)/\Ss.ed m th/\Ss.ed m el
def Ss.ed(m:Nat):List S->Prop
 | []=>True
 |s::r=>s.ed m/\Ss.ed m r
end
mutual
def S.cost:S->Nat
 | .mk k _ _ _ a v args th el=>16+a.cost+2*v.cost+Es.cost args+Ss.cost th+Ss.cost el
def Ss.cost:List S->Nat
 | []=>0
 |s::r=>s.cost+Ss.cost r
end
theorem Es.wf_append{f:Int} : ∀{a b:List E},Es.wf f (a++b) ↔ Es.wf f a/\Es.wf f b
 | [],b=>by simp [Es.wf]
 |x::a,b=>by simp [Es.wf,Es.wf_append (a:=a),and_assoc]
theorem Es.cost_append: ∀{a b:List E},Es.cost (a++b)=Es.cost a+Es.cost b
 | [],b=>by simp [Es.cost]
 |x::a,b=>by simp [Es.cost,Es.cost_append (a:=a)];omega
theorem Ss.wf_append{f:Int} : ∀{a b:List S},Ss.wf f (a++b) ↔ Ss.wf f a/\Ss.wf f b
 | [],b=>by simp [Ss.wf]
 |x::a,b=>by simp [Ss.wf,Ss.wf_append (a:=a),and_assoc]
theorem Ss.cnt_append: ∀{a b:List S},Ss.cnt (a++b)=Ss.cnt a+Ss.cnt b
 | [],b=>by simp [Ss.cnt]
 |x::a,b=>by simp [Ss.cnt,Ss.cnt_append (a:=a)];omega
theorem Ss.whl_append: ∀{a b:List S},Ss.whl (a++b)=Ss.whl a+Ss.whl b
 | [],b=>by simp [Ss.whl]
 |x::a,b=>by simp [Ss.whl,Ss.whl_append (a:=a)];omega
theorem Ss.dp_append{d:Nat} : ∀{a b:List S},Ss.dp d (a++b)=max (Ss.dp d a) (Ss.dp d b)
 | [],b=>by simp [Ss.dp]
 |x::a,b=>by rw [CV,Ss.dp,Ss.dp,Ss.dp_append (a:=a)];omega
theorem Ss.ed_append{m:Nat} : ∀{a b:List S},Ss.ed m (a++b) ↔ Ss.ed m a/\Ss.ed m b
 | [],b=>by simp [Ss.ed]
 |x::a,b=>by simp [Ss.ed,Ss.ed_append (a:=a),and_assoc]
theorem Ss.cost_append: ∀{a b:List S},Ss.cost (a++b)=Ss.cost a+Ss.cost b
 | [],b=>by simp [Ss.cost]
 |x::a,b=>by simp [Ss.cost,Ss.cost_append (a:=a)];omega
def RN(h:Heap)(id r:Nat)(w:Int):Prop:=id<h.next/\∃io e,∃l:Y12,(∀x∈l,bE x)/\l.length=r/\h.get id= .cells [.vslice io e l.length 1 (l.map (IV.int .i64)),.int .i64 w]
theorem RN.push{h:Heap}{id r:Nat}{w:Int}{x:IObj}(g:RN h id r w):RN (h.push x) id r w:=by
 obtain⟨h1,i,e,l,h2,h3,h4⟩:=g;exact⟨BO h1,i,e,l,h2,h3,by rw [aO h1];exact h4⟩
theorem RN.set{h:Heap}{id i r:Nat}{w:Int}{x:IObj}(g:RN h id r w)(j:i≠id):RN (h.set i x) id r w:=by
 obtain⟨h1,m,e,l,h2,h3,h4⟩:=g;exact⟨h1,m,e,l,h2,h3,by rw [aG (λe=>j e.symm)];exact h4⟩
def GN(h:Heap)(id r:Nat)(w:Int)(h2:Heap):Prop:=RN h2 id r w/\HF id h h2
theorem GN.push{h h2:Heap}{id r:Nat}{w:Int}{x:IObj}(g:GN h id r w h2):GN h id r w (h2.push x):=⟨g.1.push,g.2.trans HF.push⟩
theorem GN.set{h h2:Heap}{id i r:Nat}{w:Int}{x:IObj}(g:GN h id r w h2)(y:h.next<=i)(u:i≠id):GN h id r w (h2.set i x):=
 ⟨g.1.set u,g.2.1,λj m l=>by rw [aG JZ];exact g.2.2 j m l⟩
theorem GN.trans{h h1 h2:Heap}{id r i:Nat}{w j:Int}(g:GN h id r w h1)(k:GN h1 id i j h2):GN h id i j h2:=⟨k.1,g.2.trans k.2⟩
def rO(f:Int)(d r g:Nat)(e:E):Prop:=e.wf f/\e.dp<=d/\g<=r/\e.cost<=4*(r-g)
def pK(f:Int)(d r g:Nat)(ks:List E):Prop:=Es.wf f ks/\Es.dp ks<=d+1/\g<=r/\Es.cost ks<=4*(r-g)
theorem pK.nil{f:Int}{d r:Nat} :pK f d r r []:=⟨trivial,by simp [Es.dp],AF _,by simp [Es.cost]⟩
theorem Es.dp_append: ∀{a b:List E},Es.dp (a++b)=max (Es.dp a) (Es.dp b)
 | [],b=>by simp [Es.dp]
 |x::a,b=>by rw [CV,Es.dp,Es.dp,Es.dp_append (a:=a)];omega
theorem pK.snoc{f:Int}{d r r1 g:Nat}{ks:List E}{e:E}(a:pK f d r r1 ks)(b:rO f d r1 g e):pK f d r g (ks++ [e]):=by
 obtain⟨i,l,m,u⟩:=a;obtain⟨j,y,z,A⟩:=b;refine⟨Es.wf_append.2 ⟨i,j,trivial⟩,?_,JZ,?_⟩
 .rw [Es.dp_append];simp only [Es.dp];omega
 .rw [Es.cost_append];simp only [Es.cost];omega
theorem rO.node{f k n op:Int}{nm:Y11}{d r g:Nat}{ks:List E}(a:pK f d r g ks)(h:Lz f k n nm op ks.length):rO f (d+1) (r+1) g (.mk k n nm op ks):=by
 obtain⟨i,j,l,m⟩:=a;refine⟨⟨h,i⟩,j,JZ,?_⟩;rw [E.cost];split<;>omega
theorem Ep{l:List (Y11)}{o:Nat}{K:Y11->Prop}(h:o<l.length)(hk: ∀s∈l,K s):dU (l.map IV.str) o K:=by
 unfold dU
 rw [BJ,AB h];exact hk _ (AG h)
theorem e0V{l:Y12}{o:Nat}{K:Int->Prop}(h:o<l.length)(hk: ∀s∈l,K s):aN .i64 (l.map (IV.int .i64)) o K:=by
 unfold aN
 rw [BJ,AB h];simpa using hk _ (AG h)
def jP(f:Int)(d r g:Nat)(w i:Int)(l:List S):Prop:=Ss.wf f l/\Ss.cost l<=16*(r-g)/\Ss.cnt l<=r-g/\(i=w+Ss.whl l/\i<=10)/\Ss.dp d l<=4/\Ss.ed 5 l/\g<=r
def I7(f:Int)(d r g:Nat)(w i:Int)(s:S):Prop:=jP f d r g w i [s]
theorem jP.nil{f w:Int}{d r:Nat}(h:w<=10):jP f d r r w w []:=⟨trivial,by simp [Ss.cost],by simp [Ss.cnt],⟨by simp [Ss.whl],h⟩,by simp [Ss.dp],trivial,AF _⟩
theorem jP.mono{f w i:Int}{d r r1 g:Nat}{l:List S}(a:jP f d r1 g w i l)(h:r1<=r):jP f d r g w i l:=by
 grind [jP]
theorem jP.snoc{f w i j:Int}{d r r1 g:Nat}{l:List S}{s:S}(a:jP f d r r1 w i l)(b:I7 f d r1 g i j s):jP f d r g w j (l++ [s]):=by
 obtain⟨m,D,G,K,L,u,O⟩:=a;obtain⟨y,R,T,z,V,A,X⟩:=b;refine⟨Ss.wf_append.2 ⟨m,y⟩,?_,?_,⟨?_,z.2⟩,?_,Ss.ed_append.2 ⟨u,A⟩,JZ⟩
 .rw [Ss.cost_append];omega
 .rw [Ss.cnt_append];omega
 .rw [Ss.whl_append];omega
 .rw [Ss.dp_append];omega
theorem I7.node{f k n w wa wb y:Int}{nm u:Y11}{d r r0 r1 l m:Nat}{a v:E}{g:List E}{j i:List S}(h:qS f k nm u n a v g j i)
  (hd:d<=4) (he:a.dp<=5/\v.dp<=5/\∀e∈g,e.dp<=5) (hr:r0+1<=r/\r1<=r0) (hc:a.cost+v.cost+Es.cost g<=4*(r0-r1))
  (ht:jP f (d+1) r1 l wa wb j) (hl:jP f (d+1) l m wb y i) (hw:wa=w+(if k=4 then 1 else 0)):I7 f d r m w y (.mk k nm u n a v g j i):=by
 obtain⟨z,L,O,R,T,A,V⟩:=ht;obtain⟨D,X,Y,G,Z,K,b7⟩:=hl;refine⟨⟨⟨h,z,D⟩,trivial⟩,?_,?_,⟨?_,G.2⟩,?_,⟨⟨he,A,K⟩,trivial⟩,JZ⟩
 .simp only [Ss.cost,S.cost];omega
 .simp only [Ss.cnt,S.cnt];omega
 .simp only [Ss.whl,S.whl]
  by_cases q:k=4
  .simp only [q,if_true]at hw⊢;omega
  .simp only [q,if_false]at hw⊢;omega
 .simp only [Ss.dp,S.dp];omega
theorem e7Z:e0.dp=0:=by simp [e0,E.dp,Es.dp]
theorem c7T:e0.cost=0:=by simp [e0,E.cost,Es.cost]
theorem qR{cs:Y14}{K:Y11->Prop}{b:Y11}(e:cs[i]?=some (.str b))(hk:K b):dU cs i K:=by
 unfold dU;rw [e];exact hk
theorem f4O{cs:Y14}{K:Bool->Prop}{b:Bool}(e:cs[i]?=some (.bool b))(hk:K b):kQ cs i K:=by
 unfold kQ;rw [e];exact hk
theorem cW{k:IntKind}{cs:Y14}{K:Int->Prop}{n:Int}(e:cs[i]?=some (.int k n))(hk:K n):aN k cs i K:=by
 unfold aN;rw [e];simpa using hk
theorem jK{sz:Nat}{cs:Y14}{K:Y10->Nat->Nat->Y14->Prop}{i:Y10}{a n:Nat}{c:Y14}(e:cs[j]?=some (.vslice i a n sz c))(hk:K i a n c):bM sz cs j K:=by
 unfold bM;rw [e];simpa using hk
theorem f4A{a b:Prop}[Decidable a][Decidable b](h:a/\b):(decide a&&decide b)=true:=by
 rw [AE,decide_eq_true_eq,decide_eq_true_eq];exact h
theorem brT{p:Prop}[Decidable p]{A B:Prop}(h:p)(a:A):aK (decide p) A B:=aB (λ_=>a) (λc=>absurd h (of_decide_eq_false c))
theorem qQ{p:Prop}[Decidable p]{A B:Prop}(h: ¬p)(b:B):aK (decide p) A B:=aB (λc=>absurd (of_decide_eq_true c) h) (λ_=>b)
theorem cV{p:Prop}[Decidable p]{A B:Prop}(a:p->A)(b: ¬p->B):aK (decide p) A B:=aB (λc=>a (of_decide_eq_true c)) (λc=>b (of_decide_eq_false c))
theorem aP{p q:Prop}[Decidable p][Decidable q]{A:Prop}(h:p/\q)(a:A):aF (decide p&&decide q) A:=aA (f4A h) a
theorem RN.wl{h:Heap}{id r:Nat}{w:Int}{e:Nat}{l:Y12}(g:id<h.next)(i: ∀x∈l,bE x)(j:l.length=r){x:Int}(m:x=w):RN (h.set id (.cells [.vslice N e l.length 1 (l.map (IV.int .i64)),.int .i64 x])) id r w:=
 ⟨g,N,e,l,i,j,by rw [aH,m]⟩
def a0J(g i:Int):Y14:=[.str [97],.int .i64 g,.str [98],.int .i64 i]
def fnC(g:List S)(j:E)(i:List S)(l:E):Y14:=
 [.str [102],.vslice none 1 2 1 [.str [120],.str [121]],.vslice none 1 2 1 [.str [105],.str [106]],.vslice none 0 g.length 17 (bI g)]++cE j++
 [.str [103],.vslice none 1 1 1 [.str [110]],.vslice none 1 1 1 [.str [105]],.vslice none 0 i.length 17 (bI i)]++cE l
structure GB(f:Int)(b:List S)(v:E):Prop where
 wf:Ss.wf f b
 cost:Ss.cost b+v.cost<=1000
 cnt:Ss.cnt b<=60
 whl:Ss.whl b<=10
 dp:Ss.dp 0 b<=4
 ed:Ss.ed 5 b
 vw:v.wf f
 vd:v.dp<=5
def PP(g i:Int)(j:List S)(m:E)(l:List S)(r:E):Prop:=(1<=g/\g<=4/\1<=i/\i<=4)/\GB 0 j m/\GB 1 l r
mutual
theorem S.dp_mono{d:Nat} : ∀s:S,s.dp d<=s.dp (d+1)
 | .mk _ _ _ _ _ _ _ th el=>by
  have:=Ss.dp_mono (d:=d+1) th;have:=Ss.dp_mono (d:=d+1) el;simp only [S.dp];omega
theorem Ss.dp_mono{d:Nat} : ∀l:List S,Ss.dp d l<=Ss.dp (d+1) l
 | []=>AF _
 |s::r=>by
  have:=S.dp_mono (d:=d) s;have:=Ss.dp_mono (d:=d) r;simp only [Ss.dp];omega
end
theorem GB.mk0{f w z:Int}{r r1 y:Nat}{b:List S}{v:E}(m:jP f 0 r r1 w z b)(u:rO f 3 r1 y v)(T:r<=60)(V:0<=w):GB f b v:=by
 obtain⟨g,A,D,G,i,j,K⟩:=m;obtain⟨l,L,O,R⟩:=u;exact⟨g,JZ,JZ,JZ,i,j,l,JZ⟩
theorem jP.dp0{f w g:Int}{r r1:Nat}{b:List S}(h:jP f 1 r r1 w g b):jP f 0 r r1 w g b:=by
 grind [Ss.dp_mono,jP,CG]
theorem PP.pure{g i:List S}{j l:E}(h:PP x y g j i l):aQ [.agg [.vslice none 0 2 2 (a0J x y),.vslice none 0 2 9 (fnC g j i l)]]=true:=by
 simp only [aQ,aY,a0J,fnC,bF,I9,bK,AN]
def sC(m r:Y14):Prop:= ∃(j l:Int)(g:List S)(u:E)(i:List S)(y:E),m=a0J j l/\r=fnC g u i y
def vR(u y:Y14):Prop:= ∃(j l:Int)(g:List S)(m:E)(i:List S)(r:E),PP j l g m i r/\u=a0J j l/\y=fnC g m i r
theorem vR.q(h:vR c d):sC c d:=by
 grind [vR,sC]
theorem sC.pure(h:sC c d):aQ c=true/\aQ d=true:=by
 obtain⟨j,l,g,m,i,r,rfl,rfl⟩:=h;simp only [aQ,aY,a0J,fnC,bF,I9,bK,AN,and_self]
theorem bt{b:Bool}{A B:Prop}(h:b=true)(a:A):aK b A B:=by subst h;exact a
theorem bf{b:Bool}{A B:Prop}(h:b=false)(x:B):aK b A B:=by subst h;exact x
theorem bx{b:Bool}{A B:Prop}(a:A)(x:B):aK b A B:=by cases b;exact x;exact a
abbrev Bs:=Y11
def EW(f:Int):E->Prop
 | .mk _ _ _ _ ks=>ks.length<=3/\Es.wf f ks
theorem EW.of{f:Int} : ∀{e:E},e.wf f->EW f e
 | .mk k n nm op ks,h=>⟨by
  have:=h.1;unfold Lz at this;omega,h.2⟩
theorem EW.e0{f:Int} :EW f e0:=⟨KB,trivial⟩
theorem qS.ew{f k n:Int}{nm l:Y11}{a v:E}{g:List E}{j i:List S}(h:qS f k nm l n a v g j i):EW f a/\EW f v/\Es.wf f g:=by
 grind [qS,EW.e0,EW.of,EW,Es.wf]
def oQ:List (Y11):=[[102],[103],[120],[121],[105],[106],[110],[97],[98]]
theorem fX{s:Y11}(h:decide (s∈oQ)=true):s∈oQ:=of_decide_eq_true h
theorem a7P{f:Int}{s:Y11}(h:s∈cK f):s∈oQ:=by
 grind [cK,oQ,CD,DW]
theorem b4O{s:Y11}(h:s∈zW):s∈oQ:=by
 grind [zW,oQ,CD,DW]
theorem Bt(f:Int):(cK f).length<=1000:=by
 unfold cK
 split<;>simp
theorem qS.e{f k n:Int}{nm l:Y11}{a v:E}{g:List E}{j i:List S}(h:qS f k nm l n a v g j i):(a=e0\/a.wf f)/\(v=e0\/v.wf f)/\Es.wf f g:=by
 grind [qS,e0,Es.wf]
theorem oL{f k n:Int}{nm:Y11}{op:Int}{ks:List E}(h:E.mk k n nm op ks=e0\/E.wf f (E.mk k n nm op ks)):E.wf f (E.mk k n nm op ks) \/ (k=0/\ks=[]):=by
 grind [e0,E.wf]
theorem cI: ∀{l:List (Y11)},aQ (l.map IV.str)=true
 | []=>rfl
 |_::r=>by simp only [BN,aQ,aY,BD];exact cI
theorem qS.args2{f k n:Int}{nm l:Y11}{a v:E}{g:List E}{j i:List S}(h:qS f k nm l n a v g j i):g.length<=2:=by
 grind [qS]
theorem Es.dp_take{ks:List E}{i:Nat}(h:i<ks.length):Es.dp (ks.take (i+1))=max (Es.dp (ks.take i)) (1+ks[i].dp):=by
 rw [AO h,Es.dp_append];simp only [Es.dp];omega
theorem Es.dp_le{ks:List E}(i:Nat):Es.dp (ks.take i)<=Es.dp ks:=by
 grind [Es.dp_append,Es.dp,DQ]
theorem Es.dp_mem: ∀{ks:List E}{e:E},e∈ks->1+e.dp<=Es.dp ks
 |x::r,e,h=>by
  rcases CD.1 h with rfl|h
  .simp only [Es.dp];omega
  .have:=Es.dp_mem h;simp only [Es.dp];omega
theorem Es.wf_mem{f:Int} : ∀{ks:List E}{e:E},Es.wf f ks->e∈ks->e.wf f
 |x::r,e,h,hm=>by
  rcases CD.1 hm with rfl|hm
  .exact h.1
  .exact Es.wf_mem h.2 hm
theorem Ss.wf_mem{f:Int} : ∀{ks:List S}{e:S},Ss.wf f ks->e∈ks->e.wf f
 |x::r,e,h,hm=>by
  rcases CD.1 hm with rfl|hm
  .exact h.1
  .exact Ss.wf_mem h.2 hm
theorem Ss.ed_mem{m:Nat} : ∀{ks:List S}{e:S},Ss.ed m ks->e∈ks->e.ed m
 |x::r,e,h,hm=>by
  rcases CD.1 hm with rfl|hm
  .exact h.1
  .exact Ss.ed_mem h.2 hm
theorem Ss.cnt_mem: ∀{ks:List S}{e:S},e∈ks->e.cnt<=Ss.cnt ks
 |x::r,e,h=>by
  rcases CD.1 h with rfl|h
  .simp only [Ss.cnt];omega
  .have:=Ss.cnt_mem h;simp only [Ss.cnt];omega
theorem Ss.dp_mem{d:Nat} : ∀{ks:List S}{e:S},e∈ks->e.dp d<=Ss.dp d ks
 |x::r,e,h=>by
  rcases CD.1 h with rfl|h
  .simp only [Ss.dp];omega
  .have:=Ss.dp_mem (d:=d) h;simp only [Ss.dp];omega
theorem Ss.cnt_take{l:List S}{i:Nat}(h:i<l.length):Ss.cnt (l.take (i+1))=Ss.cnt (l.take i)+l[i].cnt:=by
 grind [Ss.cnt_append,Ss.cnt,AO]
theorem Ss.whl_take{l:List S}{i:Nat}(h:i<l.length):Ss.whl (l.take (i+1))=Ss.whl (l.take i)+l[i].whl:=by
 grind [Ss.whl_append,Ss.whl,AO]
theorem Ss.dp_take{d:Nat}{l:List S}{i:Nat}(h:i<l.length):Ss.dp d (l.take (i+1))=max (Ss.dp d (l.take i)) (l[i].dp d):=by
 rw [AO h,Ss.dp_append];simp only [Ss.dp];omega
theorem Ss.cnt_le{l:List S}(i:Nat):Ss.cnt (l.take i)<=Ss.cnt l:=by
 grind [Ss.cnt_append,Ss.cnt,DQ]
theorem Ss.dp_le{d:Nat}{l:List S}(i:Nat):Ss.dp d (l.take i)<=Ss.dp d l:=by
 grind [Ss.dp_append,Ss.dp,DQ]
mutual
theorem S.whl_cnt: ∀s:S,s.whl<=s.cnt
 | .mk k _ _ _ _ _ _ th el=>by
  have:=Ss.whl_cnt th;have:=Ss.whl_cnt el;simp only [S.whl,S.cnt];split<;>omega
theorem Ss.whl_cnt: ∀l:List S,Ss.whl l<=Ss.cnt l
 | []=>AF _
 |s::r=>by
  have:=S.whl_cnt s;have:=Ss.whl_cnt r;simp only [Ss.whl,Ss.cnt];omega
end
theorem Ss.len_cnt: ∀l:List S,l.length<=Ss.cnt l
 | []=>AF _
 | .mk _ _ _ _ _ _ _ _ _::r=>by
  have:=Ss.len_cnt r;simp only [AS,Ss.cnt,S.cnt];omega
theorem Ly{ks:List E}{i o:Nat}{K:Int->Int->Y11->Int->Y10->Nat->Nat->Y14->Prop}(h:i<ks.length)(ho:o=i*5)
  (hk: ∀(k n:Int)(nm:Y11)(op:Int)(q:List E),ks[i]= .mk k n nm op q->K k n nm op none 0 q.length (bP q)):
  aN .i64 (bP ks) o λa=>aN .i64 (bP ks) (o+1) λb=>dU (bP ks) (o+1+1) λc=>aN .i64 (bP ks) (o+1+1+1) λd=>bM 5 (bP ks) (o+1+1+1+1) λp q r s=>K a b c d p q r s:=by
 refine ldE h ho ?_;generalize he:ks[i]=t at*
 cases t with
 |mk k n nm op q=>exact hk k n nm op q rfl
theorem c8O{l:List S}{i o:Nat}{K:Int->Y11->Y11->Int->Int->Int->Y11->Int->Y10->Nat->Nat->Y14->Int->Int->Y11->Int->Y10->Nat->Nat->Y14->Y10->Nat->Nat->Y14->Y10->Nat->Nat->Y14->Y10->Nat->Nat->Y14->Prop}
  (h:i<l.length) (ho:o=i*17)
  (hk: ∀(k:Int)(nm O:Y11)(n G L:Int)(r:Y11)(u:Int)(A:List E)(R T:Int)(y:Y11)(z:Int)(D m:List E)(X V:List S),l[i]= .mk k nm O n (.mk G L r u A) (.mk R T y z D) m X V->
   K k nm O n G L r u none 0 A.length (bP A) R T y z none 0 D.length (bP D) none 0 m.length (bP m) none 0 X.length (bI X) none 0 V.length (bI V)):
  aN .i64 (bI l) o λk=>dU (bI l) (o+1) λnm=>dU (bI l) (o+1+1) λO=>aN .i64 (bI l) (o+1+1+1) λn=>
  aN .i64 (bI l) (o+1+1+1+1) λG=>aN .i64 (bI l) (o+1+1+1+1+1) λL=>dU (bI l) (o+1+1+1+1+1+1) λr=>aN .i64 (bI l) (o+1+1+1+1+1+1+1) λu=>bM 5 (bI l) (o+1+1+1+1+1+1+1+1) λY q1 r1 s1=>
  aN .i64 (bI l) (o+1+1+1+1+1+1+1+1+1) λR=>aN .i64 (bI l) (o+1+1+1+1+1+1+1+1+1+1) λT=>dU (bI l) (o+1+1+1+1+1+1+1+1+1+1+1) λy=>aN .i64 (bI l) (o+1+1+1+1+1+1+1+1+1+1+1+1) λz=>bM 5 (bI l) (o+1+1+1+1+1+1+1+1+1+1+1+1+1) λZ q2 r2 s2=>
  bM 5 (bI l) (o+1+1+1+1+1+1+1+1+1+1+1+1+1+1) λp3 q3 r3 s3=>bM 17 (bI l) (o+1+1+1+1+1+1+1+1+1+1+1+1+1+1+1) λp4 q4 r4 s4=>bM 17 (bI l) (o+1+1+1+1+1+1+1+1+1+1+1+1+1+1+1+1) λp5 q5 r5 s5=>
  K k nm O n G L r u Y q1 r1 s1 R T y z Z q2 r2 s2 p3 q3 r3 s3 p4 q4 r4 s4 p5 q5 r5 s5:=by
 subst ho;have g:=λj (hj:j<17)=>U8 (j:=j) h hj
 generalize l[i]=t at*
 cases t with
 |mk k nm O n a v m X V=>
  cases a with
  |mk G L r u A=>
   cases v with
   |mk R T y z D=>
    exact cW (g 0 KA) (qR (g 1 KA) (qR (g 2 KA) (cW (g 3 KA) (cW (g 4 KA) (cW (g 5 KA) (qR (g 6 KA) (cW (g 7 KA) (jK (g 8 KA) (cW (g 9 KA) (cW (g 10 KA) (qR (g 11 KA) (cW (g 12 KA) (jK (g 13 KA) (jK (g 14 KA) (jK (g 15 KA) (jK (g 16 KA) (hk k nm O n G L r u A R T y z D m X V rfl)))))))))))))))))
theorem d7B(s:S): ∃(k:Int)(nm G:Y11)(n y z:Int)(j:Y11)(l:Int)(i:List E)(K L:Int)(r:Y11)(u:Int)(m g:List E)(D A:List S),s= .mk k nm G n (.mk y z j l i) (.mk K L r u m) g D A:=by
 cases s with
 |mk k nm G n a v g D A=>
  cases a with
  |mk y z j l i=>
   cases v with
   |mk K L r u m=>exact⟨_,_,_,_,_,_,_,_,_,_,_,_,_,_,_,_,_,rfl⟩
theorem e0W{l:List S}{i o:Nat}{K:Int->Prop}(h:i<l.length){k:Int}{nm u:Y11}{n:Int}{a v:E}{g:List E}{r m:List S}(e:l[i]= .mk k nm u n a v g r m)(ho:o=i*17)(hk:K k):aN .i64 (bI l) o K:=
 cW (n:=k) (by rw [ho];have:=U8 (j:=0) h KA;rw [HC]at this;rw [this,e];rfl) hk
theorem f4P{l:List S}{i o:Nat}{K:Y11->Prop}(h:i<l.length){k:Int}{nm u:Y11}{n:Int}{a v:E}{g:List E}{r m:List S}(e:l[i]= .mk k nm u n a v g r m)(ho:o=i*17+1)(hk:K nm):dU (bI l) o K:=
 qR (b:=nm) (by rw [ho,U8 (j:=1) h KA,e];rfl) hk
theorem a7G{l:List S}{i o:Nat}{K:Y10->Nat->Nat->Y14->Prop}(h:i<l.length){k:Int}{nm u:Y11}{n:Int}{a v:E}{g:List E}{m r:List S}(e:l[i]= .mk k nm u n a v g m r)(ho:o=i*17+15)(hk:K none 0 m.length (bI m)):bM 17 (bI l) o K:=
 jK (by rw [ho,U8 (j:=15) h KA,e];cases a;cases v;rfl) hk
theorem a7H{l:List S}{i o:Nat}{K:Y10->Nat->Nat->Y14->Prop}(h:i<l.length){k:Int}{nm u:Y11}{n:Int}{a v:E}{g:List E}{r m:List S}(e:l[i]= .mk k nm u n a v g r m)(ho:o=i*17+16)(hk:K none 0 m.length (bI m)):bM 17 (bI l) o K:=
 jK (by rw [ho,U8 (j:=16) h KA,e];cases a;cases v;rfl) hk
def SK(g:Y15)(s k:Int):Prop:=0<=k/\k<g.length/\(aD g).getD k.toNat 0=s
theorem SK.mono{k s:Int}(h:SK A s k)(g:A<+:B):SK B s k:=by
 obtain⟨h1,h2,h3⟩:=h;refine⟨h1,Int.lt_of_lt_of_le h2 (by have:=g.length_le;omega),?_⟩;rw [I8 (pP g) (by rw [bA];omega),h3]
def T5(g:Y15):Y12->Y12->Prop
 | [],[]=>True
 |k::ks,s::ss=>(SK g s k/\s≠0)/\T5 g ks ss
 |_,_=>False
theorem T5.map{g:Y15} : ∀{ks ss:Y12},T5 g ks ss->ks.all (dY (aD g))=true/\ks.map (λq=>(aD g).getD q.toNat 0)=ss/\∀k∈ks,0<=k/\k<g.length
 | [],[],_=>⟨rfl,rfl,λk h=>by cases h⟩
 |k::ks,s::ss,h=>by
  obtain⟨⟨⟨h1,h2,h3⟩,h4⟩,j⟩:=h;obtain⟨l,m,r⟩:=T5.map j;refine⟨?_,?_,?_⟩
  .rw [EZ,l,AN];unfold dY
   simp only [AE,decide_eq_true_eq];exact⟨h1,by rw [bA];exact h2,by rw [h3];exact h4⟩
  .rw [BN,m,h3]
  .intro q i;rcases CD.1 i with rfl|i
   .exact⟨h1,h2⟩
   .exact r q i
 | [],_::_,h=>h.elim
 |_::_,[],h=>h.elim
theorem T5.mono(g:A<+:B): ∀{ks ss:Y12},T5 A ks ss->T5 B ks ss
 | [],[],_=>trivial
 |k::ks,s::ss,h=>⟨⟨h.1.1.mono g,h.1.2⟩,T5.mono g h.2⟩
 | [],_::_,h=>h.elim
 |_::_,[],h=>h.elim
theorem T5.append : ∀{ks ss i j:Y12},T5 A ks ss->T5 A i j->T5 A (ks++i) (ss++j)
 | [],[],_,_,_,h=>h
 |k::ks,s::ss,_,_,h,g=>⟨h.1,T5.append h.2 g⟩
 | [],_::_,_,_,h,_=>h.elim
 |_::_,[],_,_,h,_=>h.elim
theorem T5.one{k s:Int}(h:SK A s k)(g:s≠0):T5 A [k] [s]:=⟨⟨h,g⟩,trivial⟩
theorem uY{op g:Int}{ks ss:Y12}(h:T5 A ks ss):cH A (aD A) ⟨op,g,ks⟩=bW (eK A ⟨op,g,ks⟩) op g ss:=by
 obtain⟨h1,h2,_⟩:=h.map;unfold cH
 rw [if_pos h1,h2]
theorem nsG{e:Nat}{op g:Int}{k:Y12}(h:op≠31/\op≠30/\op≠25):bW e op g k=gN op g k:=by
 unfold bW
 rw [if_neg h.1,if_neg h.2.1,if_neg h.2.2]
theorem c0U{e:Nat} :bW e 1 x []=1:=by
 rw [nsG KA];simp [gN,vP,ar,jQ]
theorem c0V{e:Nat} :bW e 26 0 []=2:=by
 rw [nsG KA];simp [gN,vP,ar,jQ,Ab]
theorem c9F{e:Nat}{m:Nat}(h:0<=x/\x<=15)(h1:1<=m)(h2:m<=16):bW e 31 x (lsL m)=3:=by
 unfold bW
 rw [if_pos rfl,if_pos];refine⟨a7M h1 h2,?_⟩;simp [jQ,Ab];omega
def B0(op:Int)(s:Y12):Bool:=if op=30 then zX s else Ge op s
def b2W(op g:Int)(k:Y12):Int:=if op=30 then 2 else Bg op g k
theorem a9H{op g:Int}{k:Y12}(h:op≠30):b2W op g k=Bg op g k:=if_neg h
theorem a3U{e:Nat}{op g:Int}{k:Y12}(j: ∀x∈k,1<=x/\x<=3)(i:k=[3]->e<=33):bW e op g k=if B0 op k=true/\Ak e op g=true then b2W op g k else 0:=by
 grind [bW,B0,Ak,b2W,b1V]
theorem T4.finH{l:Y15}{i j:Nat}{k:Y12}(h:T4 l i j k)(y:i<l.length)(z:l[i].ks.length<=j):
  cH (l.take i) (aD (l.take i)) l[i]=(if B0 l[i].op k=true/\Ak (eK l l[i]) l[i].op l[i].im=true then b2W l[i].op l[i].im k else 0)/\k.length=l[i].ks.length/\(B0 l[i].op k=true->l[i].op=25-> ∃q:Int,l[i].ks=[q]/\(0<=q/\q<l.length)/\3<=(l.getD q.toNat default).ks.length/\(l.getD q.toNat default).ks.length<=33):=by
 have L:=h.rng;obtain⟨h1,h2,h3,h4⟩:=h.lst y z;have m:k=[3]-> ∃q:Int,l[i].ks=[q]/\(0<=q/\q<l.length)/\3<=(l.getD q.toNat default).ks.length/\(l.getD q.toNat default).ks.length<=33:=λe=>by
  obtain⟨n,r,A,D,g⟩:=h;obtain rfl:l[i]=n:=by rw [AB y]at r;exact AV r
  rw [AJ z,e]at g;have K:l[i].ks.length=1:=by rw [<-h2,e];rfl
  match hks:l[i].ks,K with
  | [q],_=>
   rw [hks,BN,BE]at g;have G:=h3 q (by rw [hks];exact BG);have u:=Y0 g.1.symm;rw [sN (by have:=u.1;rw [AW]at this;omega)]at u;exact⟨q,rfl,G,u.2⟩
 refine⟨?_,h2,λv o=>?_⟩
 .rw [h1];refine a3U L λe=>?_
  obtain⟨q,r,A,D,g⟩:=m e;show(l.getD (l[i].ks.getD 0 0).toNat default).ks.length<=33;rw [r];exact g
 .unfold B0 Ge at v;rw [o,if_neg KA,if_neg KA,if_pos rfl,decide_eq_true_eq]at v;exact m v
def SPH(h:Heap)(id:Nat)(l:Y15)(i:Nat)(g:Y12):Prop:=(i<l.length/\(∀x∈l,x.ks.length<=1000000/\True)/\l.length<=1000000)/\h.get id= .cells (g.map (IV.int .i64))/\id<h.next/\g.length=l.length/\g.take i=aD (l.take i)
def oH(n k:Nat):Y12:=(n:Int)::List.replicate k ((n:Int)+1)++(n:Int)::List.replicate (k-1) ((n:Int)+1)
def kV(n k:Nat):Y15:=[⟨26,0,[]⟩,⟨1,0,[]⟩,⟨31,0,oH n k⟩]
def Keep.loopC(n k:Nat):Y14:=(kV n k).flatMap cN
theorem Er{n k:Nat}(h:1<=k):(oH n k).length=2*k+1:=by
 grind [oH,AI,AS,DR]
theorem Nq{n k:Nat}{ks:Y12}(h:1<=k)(e:ks=(n:Int)::List.replicate (k-1) ((n:Int)+1)):oH n k=(ks++ [(n:Int)+1])++ks:=by
 have g:(n:Int)::List.replicate k ((n:Int)+1)=ks++ [(n:Int)+1]:=by
  rw [e,CV,<-List.replicate_succ',show k-1+1=k by omega]
 unfold oH
 rw [g,<-e]
theorem wJ{l:Y15}{k:Nat} :(l++kV l.length k).flatMap cN=l.flatMap cN++ [.int .i64 26,.int .i64 0,.vslice none 0 0 1 [],.int .i64 1,.int .i64 0,.vslice none 0 0 1 []]++ [.int .i64 31,.int .i64 0,.vslice none 0 (oH l.length k).length 1 ((oH l.length k).map (IV.int .i64))]:=by
 rw [CI,BV];rfl
theorem T5.rep{k:Int}(h:SK A 1 k): ∀m:Nat,T5 A (List.replicate m k) (List.replicate m 1)
 |0=>trivial
 |m+1=>⟨⟨h,KA⟩,T5.rep h m⟩
theorem a3P{n k:Nat}(h1:SK A 2 (n:Int))(h2:SK A 1 ((n:Int)+1)):T5 A (oH n k) (lsL k):=by
 have a:T5 A ((n:Int)::List.replicate k ((n:Int)+1)) (2::List.replicate k 1):=⟨⟨h1,KA⟩,T5.rep h2 k⟩;have b:T5 A ((n:Int)::List.replicate (k-1) ((n:Int)+1)) (2::List.replicate (k-1) 1):=⟨⟨h1,KA⟩,T5.rep h2 (k-1)⟩;exact a.append b
theorem wS{l:Y15}{n:Nd} :(aD (l++ [n])).getD l.length 0=cH l (aD l) n:=by
 rw [lI,AH,BC (by rw [bA];exact AF _),bA,JU];rfl
theorem Sj{l:Y15}{k:Nat}(h1:1<=k)(h2:k<=16):aD (l++kV l.length k)=aD l++ [2,1,3]:=by
 have j:aD (l++ [⟨26,0,[]⟩])=aD l++ [2]:=by
  rw [lI]
  congr 2
 have g:aD ((l++ [⟨26,0,[]⟩])++ [⟨1,0,[]⟩])=(aD l++ [2])++ [1]:=by
  rw [lI,j]
  congr 2
 have i:(aD l).length=l.length:=bA l;have hk:T5 ((l++ [⟨26,0,[]⟩])++ [⟨1,0,[]⟩]) (oH l.length k) (lsL k):=by
  refine a3P ⟨JZ,by simp only [AI,AS,BL];omega,?_⟩ ⟨JZ,by simp only [AI,AS,BL];omega,?_⟩
  .rw [g,AK,AH,BV,BC JZ,i,JU];rfl
  .rw [g,show((l.length:Int)+1).toNat=l.length+1 by omega,AH,BV,BC JZ,i,GK];rfl
 have m:aD (((l++ [⟨26,0,[]⟩])++ [⟨1,0,[]⟩])++ [⟨31,0,oH l.length k⟩])=((aD l++ [2])++ [1])++ [3]:=by
  rw [lI,g]
  congr 2
  rw [<-g];exact(uY hk).trans (c9F KA h1 h2)
 have r:l++kV l.length k=((l++ [⟨26,0,[]⟩])++ [⟨1,0,[]⟩])++ [⟨31,0,oH l.length k⟩]:=by
  rw [BV,BV];rfl
 rw [r,m,BV,BV];rfl
def zY(l:Y15)(p:Int×Nat):Y15:=if p.1=1 then l++ [⟨1,0,[]⟩]else if p.1=2 then l++ [⟨26,0,[]⟩]else l++kV l.length p.2
def Cn(l:Y15)(p:Int×Nat):Nat:=if p.1=1\/p.1=2 then l.length else l.length+2
theorem a6O{l:Y15}{p:Int×Nat}(h:(p.1=1\/p.1=2\/p.1=3)/\(1<=p.2/\p.2<=16)):l<+:zY l p/\SK (zY l p) p.1 (Cn l p:Int)/\(p.1=3->((zY l p).getD (Cn l p) default).ks.length=2*p.2+1):=by
 obtain⟨s,m⟩:=p;obtain⟨g,h1,h2⟩:=h;dsimp only at g h1 h2;have i:(aD l).length=l.length:=bA l;rcases g with rfl|rfl|rfl
 .refine⟨DV _ _,⟨JZ,?_,?_⟩,λq=>absurd q (by dsimp only;decide)⟩
  .show((l.length:Nat):Int)< ((l++ [⟨1,0,[]⟩]:Y15).length:Int);rw [AI];simp only [AS,BL];omega
  .show(aD (l++ [⟨1,0,[]⟩])).getD ((l.length:Nat):Int).toNat 0=1;rw [AK,wS];exact(uY (ks:=[]) (ss:=[]) trivial).trans c0U
 .refine⟨DV _ _,⟨JZ,?_,?_⟩,λq=>absurd q (by dsimp only;decide)⟩
  .show((l.length:Nat):Int)< ((l++ [⟨26,0,[]⟩]:Y15).length:Int);rw [AI];simp only [AS,BL];omega
  .show(aD (l++ [⟨26,0,[]⟩])).getD ((l.length:Nat):Int).toNat 0=2;rw [AK,wS];exact(uY (ks:=[]) (ss:=[]) trivial).trans c0V
 .refine⟨DV _ _,⟨JZ,?_,?_⟩,λ_=>?_⟩
  .show((l.length+2:Nat):Int)< ((l++kV l.length m).length:Int);rw [AI];show((l.length+2:Nat):Int)< ((l.length+3:Nat):Int);omega
  .show(aD (l++kV l.length m)).getD ((l.length+2:Nat):Int).toNat 0=3;rw [AK,Sj h1 h2,AH,BC JZ,i,GK];rfl
  .show((l++kV l.length m).getD (l.length+2) default).ks.length=2*m+1;rw [AH,BC JZ,GK];exact Er h1
def kO(a:Y15×Y12)(ps:List (Int×Nat)):Y15×Y12:=ps.foldl (λa p=>(zY a.1 p,a.2++ [(Cn a.1 p:Int)])) a
def okP(p:Int×Nat):Prop:=(p.1=1\/p.1=2\/p.1=3)/\(1<=p.2/\p.2<=16)
theorem a6P: ∀(ps:List (Int×Nat))(l:Y15)(ks ss:Y12),T5 l ks ss->(∀p∈ps,okP p)->T5 (kO (l,ks) ps).1 (kO (l,ks) ps).2 (ss++ps.map Prod.fst)/\l<+:(kO (l,ks) ps).1/\ks<+:(kO (l,ks) ps).2
 | [],l,ks,ss,h,_=>by
  rw [DT,CZ];exact⟨h,ES _,ES _⟩
 |p::r,l,ks,ss,h,hp=>by
  have h0:=hp p BG;obtain⟨i,m,_⟩:=a6O h0;have g:p.1≠0:=by
   have:=h0.1;omega
  obtain⟨j,g2,u⟩:=a6P r (zY l p) (ks++ [(Cn l p:Int)]) (ss++ [p.1]) ((h.mono i).append (T5.one m g)) λq y=>hp q (CC _ y)
  rw [BV]at j;exact⟨j,i.trans g2,(DV _ _).trans u⟩
theorem b7K{ps:List (Int×Nat)}(g: ∀p∈ps,okP p)(op m:Int)(e:Nat)(j: ∀p,ps=[p]->p.1=3->e=2*p.2+1):
  cH (kO ([],[]) ps).1 (aD (kO ([],[]) ps).1) ⟨op,m,(kO ([],[]) ps).2⟩=bW e op m (ps.map Prod.fst):=by
 have i:=(a6P ps [] [] [] trivial g).1;rw [DG]at i;rw [uY i];refine Ey λq=>?_
 clear i
 match ps,q,j,g with
 | [],q,_,_=>cases q
 |_::_::_,q,_,_=>exact absurd q KB
 | [p],q,j,g=>
  have h3:p.1=3:=by simpa using q
  obtain⟨_,_,r⟩:=a6O (l:=[]) (g p BG);rw [j p rfl h3];exact r h3
def D5(l:Y15)(g:Y12)(q:Int):Int×Nat:=(g.getD q.toNat 0,if g.getD q.toNat 0=3 then((l.getD q.toNat default).ks.length-1)/2 else 1)
def oI(l:Y15)(i j:Nat)(g:Y12):List (Int×Nat):=((l.getD i default).ks.take j).map (D5 l g)
structure NGP(l:Y15)(i:Nat)(k0:Y12):Prop where
 hi:i<l.length
 hll:l.length<=100000
 hks: ∀n∈l,n.ks.length<=41
 hkl:k0.length=l.length
 hkt:k0.take i=aD (l.take i)
 hko:(l.getD i default).ks.all (dY (aD (l.take i)))=true
theorem NGP.kid{l:Y15}{i:Nat}(h:NGP l i K){q:Int}(m:q∈ (l.getD i default).ks):(0<=q/\q<i)/\q.toNat<K.length/\K.getD q.toNat 0=(aD (l.take i)).getD q.toNat 0/\(K.getD q.toNat 0=1\/K.getD q.toNat 0=2\/K.getD q.toNat 0=3)/\(K.getD q.toNat 0=3->(l.getD q.toNat default).ks.length%2=1/\3<=(l.getD q.toNat default).ks.length/\(l.getD q.toNat default).ks.length<=33):=by
 obtain⟨r,u,y⟩:=G8 (CF.1 h.hko q m);have A:=h.hkl;have z:=h.hi;rw [bA,AW]at u;have e:K.getD q.toNat 0=(aD (l.take i)).getD q.toNat 0:=by
  rw [<-h.hkt,AH,AH,DF JZ]
 have g:q.toNat< (aD (l.take i)).length:=by rw [bA,AW];omega
 have j:(aD (l.take i)).getD q.toNat 0=(aD (l.take i))[q.toNat]:=by rw [AH,AB g];rfl
 have D:=Fv _ _ (AG g);refine⟨⟨r,JZ⟩,JZ,e,by rw [e];rw [j]at y⊢;omega,λh3=>?_⟩;rw [e]at h3;have a:=Fu h3;have b:=Y0 h3;rw [sN JZ]at a b;exact⟨a,b.2⟩
theorem NGP.okp{l:Y15}{i:Nat}(h:NGP l i K){q:Int}(g:q∈ (l.getD i default).ks):okP (D5 l K q):=by
 obtain⟨_,_,_,a,b⟩:=h.kid g;refine⟨a,?_⟩;unfold D5
 dsimp only;split
 .rename_i c;have:=b c;omega
 .omega
theorem NGP.ps{l:Y15}{i:Nat}(h:NGP l i K)(j:Nat): ∀p∈oI l i j K,okP p:=by
 intro p g;unfold oI at g;obtain⟨q,m,rfl⟩:=DU.1 g;exact h.okp (DY m)
theorem b1B(a:Y15×Y12)(ps:List (Int×Nat))(p:Int×Nat):kO a (ps++ [p])=(zY (kO a ps).1 p,(kO a ps).2++ [(Cn (kO a ps).1 p:Int)]):=by
 unfold kO
 rw [GQ];rfl
theorem c2Y{l:Y15}{i j:Nat}(g:j< (l.getD i default).ks.length):oI l i (j+1) K=oI l i j K++ [D5 l K (l.getD i default).ks[j]]:=by
 unfold oI
 rw [AO g,BY];rfl
theorem Dn{l:Y15}{i j:Nat}(g:j< (l.getD i default).ks.length){few:Y15}{kids:Y12}(e:(few,kids)=kO ([],[]) (oI l i j K)):(zY few (D5 l K (l.getD i default).ks[j]),kids++ [(Cn few (D5 l K (l.getD i default).ks[j]):Int)])=kO ([],[]) (oI l i (j+1) K):=by
 rw [c2Y g,b1B,<-e]
theorem My{l:Y15}{i j:Nat}(g:j< (l.getD i default).ks.length){few:Y15}{kids:Y12}(e:(few,kids)=kO ([],[]) (oI l i j K))(s:K.getD ((l.getD i default).ks[j]).toNat 0=1):(few++ [⟨1,0,[]⟩],kids++ [(few.length:Int)])=kO ([],[]) (oI l i (j+1) K):=by
 rw [<-Dn g e];have a:zY few (D5 l K (l.getD i default).ks[j])=few++ [⟨1,0,[]⟩]:=if_pos s;have b:Cn few (D5 l K (l.getD i default).ks[j])=few.length:=if_pos (.inl s);rw [a,b]
theorem Mz{l:Y15}{i j:Nat}(g:j< (l.getD i default).ks.length){few:Y15}{kids:Y12}(e:(few,kids)=kO ([],[]) (oI l i j K))(s:K.getD ((l.getD i default).ks[j]).toNat 0=2):(few++ [⟨26,0,[]⟩],kids++ [(few.length:Int)])=kO ([],[]) (oI l i (j+1) K):=by
 rw [<-Dn g e];have a:zY few (D5 l K (l.getD i default).ks[j])=few++ [⟨26,0,[]⟩]:=(if_neg (λc=>by have:K.getD ((l.getD i default).ks[j]).toNat 0=1:=c;omega)).trans (if_pos s);have b:Cn few (D5 l K (l.getD i default).ks[j])=few.length:=if_pos (.inr s);rw [a,b]
theorem Na{l:Y15}{i j:Nat}(g:j< (l.getD i default).ks.length){few:Y15}{kids:Y12}(e:(few,kids)=kO ([],[]) (oI l i j K))(s:K.getD ((l.getD i default).ks[j]).toNat 0=3):(few++kV few.length (((l.getD ((l.getD i default).ks[j]).toNat default).ks.length-1)/2),kids++ [((few.length+2:Nat):Int)])=kO ([],[]) (oI l i (j+1) K):=by
 rw [<-Dn g e];have m:(D5 l K (l.getD i default).ks[j]).2=((l.getD ((l.getD i default).ks[j]).toNat default).ks.length-1)/2:=if_pos s;have a:zY few (D5 l K (l.getD i default).ks[j])=few++kV few.length (D5 l K (l.getD i default).ks[j]).2:=(if_neg (λc=>by have:K.getD ((l.getD i default).ks[j]).toNat 0=1:=c;omega)).trans (if_neg (λc=>by have:K.getD ((l.getD i default).ks[j]).toNat 0=2:=c;omega));have b:Cn few (D5 l K (l.getD i default).ks[j])=few.length+2:=if_neg (λc=>by have:K.getD ((l.getD i default).ks[j]).toNat 0=1\/K.getD ((l.getD i default).ks[j]).toNat 0=2:=c;omega);rw [a,b,m]
theorem b7L: ∀(ps:List (Int×Nat))(a:Y15×Y12),(kO a ps).1.length<=a.1.length+3*ps.length/\(kO a ps).2.length=a.2.length+ps.length
 | [],a=>⟨AF _,rfl⟩
 |p::r,a=>by
  obtain⟨h1,h2⟩:=b7L r (zY a.1 p,a.2++ [(Cn a.1 p:Int)]);have h3:(zY a.1 p).length<=a.1.length+3:=by
   unfold zY
   split
   .simp
   split
   .simp
   .simp [kV]
  have e:kO a (p::r)=kO (zY a.1 p,a.2++ [(Cn a.1 p:Int)]) r:=rfl;rw [e];simp only [AI,AS,BL]at h1 h2⊢;exact⟨JZ,JZ⟩
theorem c7V{l:Y15}{p:Int×Nat}(i:okP p)(h: ∀x∈l,x.ks.length<=1000000): ∀x∈zY l p,x.ks.length<=1000000:=by
 intro x g;unfold zY at g;split at g
 .rcases BZ.1 g with g|g
  .exact h x g
  .rw [BU.1 g];simp
 split at g
 .rcases BZ.1 g with g|g
  .exact h x g
  .rw [BU.1 g];simp
 .rcases BZ.1 g with g|g
  .exact h x g
  .unfold kV at g;simp only [CD,DW,or_false]at g;have:=i.2;rcases g with rfl|rfl|rfl
   .simp
   .simp
   .show(oH _ _).length<=_;rw [Er this.1];omega
theorem b7J: ∀(ps:List (Int×Nat))(a:Y15×Y12),(∀p∈ps,okP p)->(∀x∈a.1,x.ks.length<=1000000)-> ∀x∈ (kO a ps).1,x.ks.length<=1000000
 | [],a,_,h=>h
 |p::r,a,hp,h=>b7J r _ (λq g=>hp q (CC _ g)) (c7V (hp p BG) h)
theorem NGP.sz{l:Y15}{i:Nat}(h:NGP l i K){j:Nat}(r:j<=(l.getD i default).ks.length){few:Y15}{kids:Y12}(e:(few,kids)=kO ([],[]) (oI l i j K)):few.length<=123/\kids.length=j/\j<=41/\∀x∈few,x.ks.length<=1000000:=by
 obtain⟨h1,h2⟩:=b7L (oI l i j K) ([],[]);have h3:=b7J (oI l i j K) ([],[]) (h.ps j) (λx m=>(DW m).elim);rw [<-e]at h1 h2 h3;have hm:(l.getD i default) ∈l:=by
  rw [AH,AB h.hi];exact AG h.hi
 have:=h.hks _ hm;have g:(oI l i j K).length=j:=by
  unfold oI
  rw [AX,AW];omega
 rw [g]at h1 h2;simp only [BL]at h1 h2;exact⟨JZ,JZ,JZ,h3⟩
theorem NGP.fin{l:Y15}{i:Nat}(h:NGP l i K){few:Y15}{kids:Y12}(e:(few,kids)=kO ([],[]) (oI l i (l.getD i default).ks.length K)):
  (aD (few++ [⟨(l.getD i default).op,(l.getD i default).im,kids⟩])).getD few.length 0=cH (l.take i) (aD (l.take i)) (l.getD i default):=by
 have h1:=b7K (h.ps (l.getD i default).ks.length) (l.getD i default).op (l.getD i default).im (eK (l.take i) (l.getD i default)) λp g j=>by
  unfold oI at g;rw [EC]at g;have m:(l.getD i default).ks.length=1:=by have:=congrArg List.length g;rw [AX]at this;exact this
  match hk:(l.getD i default).ks,m with
  | [q],_=>
   rw [hk,BN,DT,BE]at g;obtain⟨a,b,c,d,f⟩:=h.kid (q:=q) (by rw [hk];exact BG);have h3:K.getD q.toNat 0=3:=by rw [<-g.1]at j;exact j
   have:=f h3;rw [<-g.1];unfold eK D5
   rw [hk];dsimp only;rw [if_pos h3];show((l.take i).getD q.toNat default).ks.length=_;rw [sN JZ];omega
 rw [<-e]at h1;rw [wS];dsimp only at h1;rw [h1];unfold cH
 rw [if_pos h.hko]
 congr 1
 unfold oI
 rw [EC,List.map_map];refine FT λq r=>?_
 exact(h.kid r).2.2.1
end Go.M10
end
section
namespace Go.M14
open Go.Pv
def src:IV:= .str [102,117,110,99,32,102,40,41,32,118,97,114,32,105,32,123,32,119,104,105,108,101,32,40,105,32,60,32,57,41,32,123,32,105,32,61,32,105,32,43,32,49,59,32,125,32,114,101,116,117,114,110,32,105,59,32,125]
def prg:IV:= .agg [.vslice none 0 0 2 [],.vslice none 0 1 9 [.str [102],.vslice none 0 0 1 [],.vslice none 0 1 1 [.str [105]],.vslice none 0 1 17 [.int .i64 4,.str [],.str [],.int .i64 0,
 .int .i64 0,.int .i64 0,.str [],.int .i64 0,.vslice none 0 0 5 [],.int .i64 4,.int .i64 0,.str [],.int .i64 17,.vslice none 0 2 5 [.int .i64 2,.int .i64 0,.str [105],
 .int .i64 0,.vslice none 0 0 5 [],.int .i64 1,.int .i64 9,.str [],.int .i64 0,.vslice none 0 0 5 []],.vslice none 0 0 5 [],.vslice none 0 1 17 [.int .i64 1,.str [105],
 .str [],.int .i64 0,.int .i64 0,.int .i64 0,.str [],.int .i64 0,.vslice none 0 0 5 [],.int .i64 4,.int .i64 0,.str [],.int .i64 4,.vslice none 0 2 5 [.int .i64 2,.int
 .i64 0,.str [105],.int .i64 0,.vslice none 0 0 5 [],.int .i64 1,.int .i64 1,.str [],.int .i64 0,.vslice none 0 0 5 []],.vslice none 0 0 5 [],.vslice none 0 0 17 [],
 .vslice none 0 0 17 []],.vslice none 0 0 17 []],.int .i64 2,.int .i64 0,.str [105],.int .i64 0,.vslice none 0 0 5 []]]
def gph:IV:= .agg [.str [102],.int .i64 0,.vslice none 0 14 3 [.int .i64 26,.int .i64 0,.vslice none 0 0 1 [],.int .i64 1,.int .i64 0,.vslice none 0 0 1 [],.int .i64 1,.int .i64 9,.vslice
 none 0 0 1 [],.int .i64 17,.int .i64 0,.vslice none 0 2 1 [.int .i64 1,.int .i64 2],.int .i64 3,.int .i64 0,.vslice none 0 0 1 [],.int .i64 3,.int .i64 1,.vslice none 0
 0 1 [],.int .i64 1,.int .i64 1,.vslice none 0 0 1 [],.int .i64 4,.int .i64 0,.vslice none 0 2 1 [.int .i64 5,.int .i64 6],.int .i64 17,.int .i64 0,.vslice none 0 2 1
 [.int .i64 7,.int .i64 2],.int .i64 31,.int .i64 0,.vslice none 0 5 1 [.int .i64 0,.int .i64 1,.int .i64 8,.int .i64 4,.int .i64 7],.int .i64 25,.int .i64 0,.vslice
 none 0 1 1 [.int .i64 9],.int .i64 22,.int .i64 0,.vslice none 0 3 1 [.int .i64 3,.int .i64 10,.int .i64 0],.int .i64 25,.int .i64 1,.vslice none 0 1 1 [.int .i64 9],.int
 .i64 22,.int .i64 0,.vslice none 0 3 1 [.int .i64 3,.int .i64 12,.int .i64 1]],.int .i64 13,.int .i64 11]
def unit:IV:= .agg [.vslice none 0 0 2 [],.vslice none 0 1 5 [.str [102],.int .i64 0,.vslice none 0 14 3 [.int .i64 26,.int .i64 0,.vslice none 0 0 1 [],.int .i64 1,.int .i64 0,.vslice
 none 0 0 1 [],.int .i64 1,.int .i64 9,.vslice none 0 0 1 [],.int .i64 17,.int .i64 0,.vslice none 0 2 1 [.int .i64 1,.int .i64 2],.int .i64 3,.int .i64 0,.vslice none 0
 0 1 [],.int .i64 3,.int .i64 1,.vslice none 0 0 1 [],.int .i64 1,.int .i64 1,.vslice none 0 0 1 [],.int .i64 4,.int .i64 0,.vslice none 0 2 1 [.int .i64 5,.int .i64 6],
 .int .i64 17,.int .i64 0,.vslice none 0 2 1 [.int .i64 7,.int .i64 2],.int .i64 31,.int .i64 0,.vslice none 0 5 1 [.int .i64 0,.int .i64 1,.int .i64 8,.int .i64 4,.int
 .i64 7],.int .i64 25,.int .i64 0,.vslice none 0 1 1 [.int .i64 9],.int .i64 22,.int .i64 0,.vslice none 0 3 1 [.int .i64 3,.int .i64 10,.int .i64 0],.int .i64 25,.int
 .i64 1,.vslice none 0 1 1 [.int .i64 9],.int .i64 22,.int .i64 0,.vslice none 0 3 1 [.int .i64 3,.int .i64 12,.int .i64 1]],.int .i64 13,.int .i64 11]]
def inv:IV:= .vslice none 0 1 3 [.int .i64 1,.int .i64 0,.int .i64 8]
def f4Y:IV:= .int .i64 0
end Go.M14
end
section
namespace Go.M14
open Go.Pv Go.M13
def cR(r:Int×Int):Y14:=[.int .i64 r.1,.int .i64 r.2]
theorem A5: ∀{H:List (Int×Int)}{j:Nat}(h:j<H.length),(H.flatMap cR)[j*2]?=some (.int .i64 H[j].1)/\(H.flatMap cR)[j*2+1]?=some (.int .i64 H[j].2)
 |r::H,0,_=>⟨rfl,rfl⟩
 |r::H,j+1,h=>by
  have q:=A5 (H:=H) (j:=j) (by simpa using h);have e: ∀k,((r::H).flatMap cR)[k+2]?=(H.flatMap cR)[k]?:=λk=>by
   show(cR r++H.flatMap cR)[k+2]?=_;rw [BC (by simp [cR])];simp [cR]
  rw [show(j+1)*2=j*2+2 by omega,show j*2+2+1=(j*2+1)+2 by omega,e,e];exact q
theorem pM: ∀H:List (Int×Int),aQ (H.flatMap cR)=true
 | []=>rfl
 |r::H=>by
  have:=pM H;simp only [BF,cR,CV,DG,aQ,aY,this,AN]
def vok(H:List (Int×Int))(n:Int):Bool:=!(decide (n<1)||decide (n>H.length))
def vr(H:List (Int×Int))(n:Int):Int×Int:=if vok H n then H.getD (n-1).toNat (0,0)else(0,0)
def holds(k a b n:Int)(H:List (Int×Int))(L:Y12):Bool:=
 if vok H a=false then false
 else if k=1 then !contains (vr H a).1 (vr H a).2 0
 else if k=2 then decide (n<=(vr H a).1)
 else if k=3 then decide ((vr H a).2<=n)
 else if k=4 then vok H b&&!iS (vr H a).1 (vr H a).2 (vr H b).1 (vr H b).2
 else if k=5 then decide (1<=b) && (decide (b<=L.length) && (decide (0<=(vr H a).1) &&decide ((vr H a).2<L.getD (b-1).toNat 0)))
 else false
end Go.M14
end
section
namespace Go.M14
open Go.Pv Go.M13 Go.M15 Go.M10
def cF(r:Int×Int):Prop:=aZ r.1/\aZ r.2
theorem eX:cF (dH,dN):=by unfold cF aZ dH dN;omega
theorem Dm{a p:Int}(h:aZ a)(g:0<p):aZ (a.fdiv p):=by
 rw [wA a g];have:=uE (s:=a) g;unfold aZ at*
 rcases FL a 0 with q|q
 .have:=this.2 q;omega
 .have:=this.1 q;omega
theorem b2Y(b:Bool):aZ (nU b):=by unfold nU aZ;cases b<;>simp
theorem c3B{a b:Int}(h:aZ a):aZ (A0 a b):=by
 grind [A0,aZ,bZ]
theorem Yo{o a b:Int}(h:aZ a):aZ (A1 o a b):=by
 unfold A1
 repeat' split
 all_goals first|exact bZ _|exact c3B h| (unfold aZ;omega)|exact Vl _ _|exact a6X _ _|exact Vt _ _|skip
 unfold A8
 repeat' split
 all_goals first|exact bZ _|exact b2Y _| (exact Dm h (JY JZ))| (unfold aZ;omega)
theorem Vp(a:Int):aZ (Vo a):=bZ _
theorem d2J(o a:Int):aZ (Yq o a):=by
 grind [Yq,bZ,Vp,aZ]
theorem Uo(x y:Int):cF (M13.Cq x y):=by
 unfold M13.Cq
 split
 .rename_i h;unfold dM at h;simp only [AE,decide_eq_true_eq]at h;unfold cF aZ
  exact h
 .exact eX
theorem Wo{a b c d:Int}(g:aZ a)(i:aZ b)(j:aZ c)(hd:aZ d):aZ (Bf a b c d)/\aZ (Be a b c d):=by
 unfold Bf Be aZ at*;omega
theorem Sz{s b:Int}(g:aZ s)(i:1<=b):aZ (s.tdiv b):=by
 rw [<-rD g JZ JZ];exact bZ _
theorem c2S{m:Int}(h0:0<=m)(h1:m<=9223372036854775807):aZ (I3 m):=by
 rw [<-a8S h0 h1];exact bZ _
theorem c4D(b c:Bool):cF (Y1 b c):=by
 unfold Y1
 repeat' split
 all_goals (unfold cF aZ;simp)
theorem b1E{o a b c d:Int}(g:aZ a)(l:aZ b)(r:aZ c)(hd:aZ d):cF (mI o a b c d):=by
 unfold mI
 split
 .exact eX
 split
 .exact⟨Yo g,Yo g⟩
 split
 .exact Uo _ _
 split
 .exact Uo _ _
 split
 .unfold Dw
  split
  .rename_i h;unfold dM at h;simp only [AE,decide_eq_true_eq]at h;exact Wo h.1.1.1 h.1.1.2 h.1.2 h.2
  .exact eX
 split
 .unfold Dv
  split
  .exact eX
  .have i:1<=c:=JZ;have j:1<=d:=JZ;exact Wo (Sz g i) (Sz g j) (Sz l i) (Sz l j)
 split
 .unfold zZ
  split
  .exact eX
  .unfold cF aZ at*
   simp only
   repeat' split
   all_goals omega
 split
 .unfold nP
  split
  .repeat' split
   all_goals first|exact eX| (unfold cF aZ at*;simp only;omega)
  .split
   .exact eX
   .have h1:aZ (I3 (max b d)):=c2S JZ (by unfold aZ at*;omega);refine⟨?_,h1⟩;unfold aZ at*
    simp only;split<;>omega
 split
 .have m: ∀k:Nat,(0:Int)<2^k:=λk=>JY JZ
  unfold uK
  repeat' split
  all_goals first|exact eX|exact⟨bZ _,bZ _⟩|exact⟨Dm g (m _),Dm l (m _)⟩|exact⟨g,l⟩| (refine⟨?_,bZ _⟩;unfold aZ;omega)| (unfold cF aZ at*;simp only;omega)
 .unfold G3
  repeat' split
  all_goals first|exact c4D _ _| (unfold cF aZ;simp)
theorem b7X{o a b:Int}(g:aZ a)(i:aZ b):cF (Bc o a b):=by
 grind [Bc,eX,d2J,Vp,bZ,aZ,cF]
theorem b1F{a b c d e f:Int}(g:aZ c)(hd:aZ d)(i:aZ e)(hf:aZ f):cF (jO a b c d e f):=by
 grind [jO,eX,cF,aZ]
theorem d0Z{a b c d e f s t u:Int}(h1:a<=s)(h2:s<=b)(h3:c<=t)(h4:t<=d)(g:e<=u)(i:u<=f):jS (jO a b c d e f) (if s≠0 then t else u):=by
 unfold jO
 rw [if_neg JZ];unfold contains
 split
 .rw [if_neg JZ];exact⟨g,i⟩
 .simp only [AE,decide_eq_true_eq];split
  .split<;>(unfold jS;simp only;omega)
  .rw [if_pos JZ];exact⟨h3,h4⟩
def nk(op:Int):Nat:=if 4<=op/\op<=19 then 2 else if op=20\/op=21 then 1 else if op=22 then 3 else 0
def Bb(R:List (Int×Int))(n:Nd):Int×Int:=
 if n.op=1 then(n.im,n.im)
 else if n.op=22 then jO (R.getD (n.ks.getD 0 0).toNat (0,0)).1 (R.getD (n.ks.getD 0 0).toNat (0,0)).2 (R.getD (n.ks.getD 1 0).toNat (0,0)).1 (R.getD (n.ks.getD 1 0).toNat (0,0)).2 (R.getD (n.ks.getD 2 0).toNat (0,0)).1 (R.getD (n.ks.getD 2 0).toNat (0,0)).2
 else if n.op=20\/n.op=21 then Bc n.op (R.getD (n.ks.getD 0 0).toNat (0,0)).1 (R.getD (n.ks.getD 0 0).toNat (0,0)).2
 else if 4<=n.op/\n.op<=19 then mI n.op (R.getD (n.ks.getD 0 0).toNat (0,0)).1 (R.getD (n.ks.getD 0 0).toNat (0,0)).2 (R.getD (n.ks.getD 1 0).toNat (0,0)).1 (R.getD (n.ks.getD 1 0).toNat (0,0)).2
 else(dH,dN)
theorem Uw: ∀R:List (Int×Int),(R.flatMap cR).length=R.length*2
 | []=>rfl
 |r::R=>by
  rw [BF,AI,Uw R,AS];show 2+_=_;omega
theorem e3U: ∀{R:List (Int×Int)}{i:Nat}{a b:Int},i<R.length->(R.flatMap cR).take (i*2)++ [IV.int .i64 a,IV.int .i64 b]++(R.flatMap cR).drop (i*2+2)=(R.set i (a,b)).flatMap cR
 |r::R,0,a,b,_=>rfl
 |r::R,i+1,a,b,h=>by
  have g:=e3U (R:=R) (i:=i) (a:=a) (b:=b) (by simpa using h);rw [HR,BF,BF,<-g,show(i+1)*2=i*2+2 by omega];simp [cR]
theorem ldR{R:List (Int×Int)}{k o:Nat}{K:Int->Int->Prop}(h:k<R.length)(ho:o=k*2)(hk:K R[k].1 R[k].2):aN .i64 (R.flatMap cR) o λa=>aN .i64 (R.flatMap cR) (o+1) λb=>K a b:=by
 grind [A5,aN,cR]
theorem a4B(n:Nat):fY n [IV.bool false]=(List.replicate n false).map IV.bool:=by
 induction n with
 |zero=>rfl
 |succ n ih=>rw [FW,BN,<-ih];rfl
theorem d0C(n:Nat):fY n [IV.int .i64 0,IV.int .i64 0]=(List.replicate n ((0:Int),(0:Int))).flatMap cR:=by
 induction n with
 |zero=>rfl
 |succ n ih=>rw [FW,BF,<-ih];rfl
theorem lB{h:Heap}{n:Nat}{A:Prop}(e:h.get n= .free)(a:A):Qr h n A:=by unfold Qr;rw [e];exact a
theorem kS{cs:Y14}{K:Bool->Prop}{b:Bool}(e:cs[i]?=some (.bool b))(hk:K b):kQ cs i K:=by
 unfold kQ;rw [e];exact hk
theorem c7K{a b:Prop}[Decidable a][Decidable b](h:a/\b):(decide a&&decide b)=true:=by
 rw [AE,decide_eq_true_eq,decide_eq_true_eq];exact h
end Go.M14
end
section
namespace Go.M14
open Go.Pv
variable {α:Type}
def cM(e:α->IV)(g:List (Int×α)):List (IV×IV):=g.map λp=>(.int .i64 p.1,e p.2)
def qY(k:Int):List (Int×α)->Option α
 | []=>none
 | (x,v)::r=>if k=x then some v else qY k r
def Lt(k:Int)(v:α):List (Int×α)->List (Int×α)
 | []=>[(k,v)]
 | (x,u)::r=>if k=x then(k,v)::r else(x,u)::Lt k v r
theorem c3W(k x:Int):dD (.int .i64) (.int .i64 k) (.int .i64 x)=some (decide (k=x)):=by
 simp only [dD];rfl
theorem Qn(e:α->IV)(k:Int): ∀es,iG (.int .i64) (.int .i64 k) (cM e es)=some ((qY k es).map e)
 | []=>rfl
 | (x,v)::r=>by
  have g:=Qn e k r;unfold cM at g⊢;rw [BN,iG,c3W,qY]
  by_cases h:k=x
  .rw [if_pos h,decide_eq_true h];rfl
  .rw [if_neg h,decide_eq_false h];exact g
theorem rU(e:α->IV)(k:Int)(v:α): ∀es,sO (.int .i64) (.int .i64 k) (e v) (cM e es)=some (cM e (Lt k v es))
 | []=>rfl
 | (x,u)::r=>by
  have g:=rU e k v r;unfold cM at g⊢;rw [BN,sO,c3W,Lt]
  by_cases h:k=x
  .rw [if_pos h,decide_eq_true h];rfl
  .rw [if_neg h,decide_eq_false h];show Option.map _ (sO _ _ _ _)=_;rw [g];rfl
theorem uN(j k:Int)(v:α): ∀es,qY j (Lt k v es)=if j=k then some v else qY j es
 | []=>rfl
 | (x,u)::r=>by
  have g:=uN j k v r;rw [Lt]
  by_cases h:k=x
  .subst h;rw [if_pos rfl,qY,qY]
   by_cases q:j=k
   .rw [if_pos q,if_pos q]
   .rw [if_neg q,if_neg q,if_neg q]
  .rw [if_neg h,qY,g,qY]
   by_cases q:j=x
   .rw [if_pos q,if_pos q,if_neg JZ]
   .rw [if_neg q,if_neg q]
theorem cX{e:α->IV}{k:Int}{g:List (Int×α)}{v:α}(h:qY k g=some v):iG (.int .i64) (.int .i64 k) (cM e g)=some (some (e v)):=by rw [Qn,h];rfl
theorem fB{e:α->IV}{k:Int}{g:List (Int×α)}(h:qY k g=none):iG (.int .i64) (.int .i64 k) (cM e g)=some none:=by rw [Qn,h];rfl
theorem a8V(e:α->IV)(k:Int)(v:α)(z:IV): ∀es:List (Int×α),qY k es=none->rA (e v) (cM e es).length (cM e es++ [(.int .i64 k,z)])=cM e (Lt k v es)
 | [],_=>rfl
 | (x,u)::r,h=>by
  rw [qY]at h
  by_cases q:k=x
  .rw [if_pos q]at h;cases h
  .rw [if_neg q]at h;have g:=a8V e k v z r h;rw [Lt,if_neg q];unfold cM at g⊢;rw [BN,CV,AS,rA,g];rfl
theorem a8W(e:α->IV)(k:Int)(u v:α): ∀es:List (Int×α),qY k es=some u->nQ (.int .i64) (.int .i64 k) (cM e es)< (cM e (Lt k u es)).length/\rA (e v) (nQ (.int .i64) (.int .i64 k) (cM e es)) (cM e (Lt k u es))=cM e (Lt k v es)
 | [],h=>by cases h
 | (x,w)::r,h=>by
  rw [qY]at h;rw [Lt,Lt];unfold cM
  rw [BN,nQ,c3W]
  by_cases q:k=x
  .rw [if_pos q,if_pos q,decide_eq_true q];exact⟨KB,rfl⟩
  .rw [if_neg q]at h;rw [if_neg q,if_neg q,decide_eq_false q];obtain⟨g,i⟩:=a8W e k u v r h;unfold cM at g i;refine⟨by simpa using g,?_⟩;rw [BN,BN];show rA (e v) (_+1) (_::_)=_;rw [rA,i]
theorem c7U(e:α->IV)(k:Int)(v:α)(z:IV)(g:List (Int×α)): ∃v0 n es1,Mx (.int .i64) (.int .i64 k) z (cM e g)=some (v0,n,es1)/\n<es1.length/\rA (e v) n es1=cM e (Lt k v g):=by
 cases h:qY k g with
 |none=>
  refine⟨z,(cM e g).length,cM e g++ [(.int .i64 k,z)],?_,KB,a8V e k v z g h⟩;unfold Mx
  rw [fB h]
 |some u=>
  obtain⟨i,j⟩:=a8W e k u v g h;refine⟨e u,_,cM e (Lt k u g),?_,i,j⟩;unfold Mx
  rw [cX h];simp only [rU,DC]
theorem zA{h:Heap}{id:Nat}{e:α->IV}{k:Int}{j:List (Int×α)}{z:IV}{K:IV->Nat->List (IV×IV)->Prop}(v:α)(g:h.get id= .map (cM e j))(hk: ∀l n i,n<i.length->rA (e v) n i=cM e (Lt k v j)->K l n i):b0Z h id (.int .i64) (.int .i64 k) z K:=by
 obtain⟨l,n,i,h1,h2,h3⟩:=c7U e k v z j;unfold b0Z
 rw [g];simp only [h1];exact hk l n i h2 h3
theorem uO{h:Heap}{id:Nat}{n:Nat}{v:IV}{i j:List (IV×IV)}{K:List (IV×IV)->Prop}(g:h.get id= .map i)(l:n<i.length)(e:rA v n i=j)(hk:K j):Nt h id (n:Int) v K:=by
 unfold Nt
 rw [g];exact⟨⟨JZ,JZ⟩,by rw [AK,e];exact hk⟩
theorem c0I{cs:Y14}{A:Prop}{K:Nat->Prop}(e:cs[i]?=some .nilmap)(hk:A):Eo cs i A K:=by
 unfold Eo;rw [e];exact hk
theorem c0H{cs:Y14}{g i:Nat}{A:Prop}{K:Nat->Prop}(e:cs[g]?=some (.map i))(hk:K i):Eo cs g A K:=by
 unfold Eo;rw [e];exact hk
theorem Em{n:Nat}{cs xs:Y14}{K:Y14->Prop}(e:cs[i]?=some (.agg xs))(g:Nat.beq xs.length n=true)(hk:K xs):Sd n cs i K:=by
 unfold Sd;rw [e];simp only [g];exact hk
end Go.M14
end
end
