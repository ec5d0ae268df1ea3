/-
  Texts of this proof, one after the other.
  Conditions: none.
-/
import Derived.Test.YthimicfahhgpcaaGreatW7
set_option linter.unusedVariables false
set_option linter.unusedSimpArgs false
set_option maxRecDepth 100000
set_option maxHeartbeats 4000000
noncomputable section
variable{i j k m n b q:Nat}{x y z u w:Int}{h g:Go.Pv.Heap}{d l:List Go.Pv.IV}{A B C:List Go.M15.Nd}{K L:Y12}{p s t:Go.Pv.IV}{F:List Go.M10.E}{D:Go.Pv.Meta}{V W:List Go.Value}{U:Go.TypeId}{o:Bool}{X Y:Go.Value}{r e:Y11}{O:Go.Oper}{N:Y10}{H:Array Go.Value}
section
namespace Go.M23
open Go.Pv Go.M13 Go.M15 Go.M10 Go.M14
abbrev Sta:=Int->Int->Int
def z0:Sta:=fun _ _=>0
structure Dn where
 w:Int
 s:Sta
 t:List (Int×Sta)
def dZ:Dn:=⟨0,z0,[]⟩
def upS(s:Sta)(k i v:Int):Sta:=fun a b=>if a=k/\b=i then v else s a b
def kd(k:List Dn)(j:Nat):Dn:=k.getD j dZ
def Y0(args:Y12)(op im:Int)(k:List Dn):Dn:=
 if op=1 then⟨im,z0,[]⟩
 else if op=2 then⟨args.getD im.toNat 0,z0,[]⟩
 else if 4<=op/\op<=19 then⟨oG op (kd k 0).w (kd k 1).w,z0,[]⟩
 else if op=20\/op=21 then⟨F4 op (kd k 0).w,z0,[]⟩
 else if op=22 then(if(kd k 0).w≠0 then kd k 1 else kd k 2)
 else if op=23 then⟨(kd k 0).s im (kd k 1).w,z0,[]⟩
 else if op=25 then⟨((kd k 0).t.getD im.toNat (0,z0)).1,((kd k 0).t.getD im.toNat (0,z0)).2,[]⟩
 else if op=27\/op=29 then⟨0,(kd k 0).s,[]⟩
 else if op=28 then⟨0,upS (kd k 0).s im (kd k 1).w (kd k 2).w,[]⟩
 else if op=31 then⟨0,z0,k.map fun d=>(d.w,d.s)⟩
 else dZ
def Un(args:Y12)(g:List Dn)(n:Nd):Dn:=Y0 args n.op n.im (n.ks.map fun q=>kd g q.toNat)
def Hq(args:Y12):List Dn->Y15->List Dn
 |out,[]=>out
 |out,n::r=>Hq args (out++ [Un args out n]) r
def dnA(args:Y12)(l:Y15):List Dn:=Hq args [] l
def dn(args:Y12)(l:Y15)(i:Nat):Dn:=kd (dnA args l) i
theorem Hr(args:Y12)(n:Nd): ∀(l:Y15)(g:List Dn),Hq args g (l++ [n])=Hq args g l++ [Un args (Hq args g l) n]
 | [],g=>rfl
 |x::l,g=>by rw [CO,Hq,Hq,Hr args n l]
theorem H8(args:Y12): ∀(l:Y15)(g:List Dn),(Hq args g l).length=g.length+l.length
 | [],g=>rfl
 |x::l,g=>by
  rw [Hq,H8 args l];simp only [AJ,AW,BW];omega
theorem Um(args:Y12): ∀(l:Y15)(g:List Dn),g<+:Hq args g l
 | [],g=>DI _
 |x::l,g=>(DC _ _).trans (Um args l _)
theorem Uk(args:Y12): ∀(l r:Y15)(g:List Dn),Hq args g (l++r)=Hq args (Hq args g l) r
 | [],r,g=>rfl
 |x::l,r,g=>by rw [CO,Hq,Hq,Uk args l r]
theorem a5S{args:Y12}{l y:Y15}(h:l<+:y){i:Nat}(g:i<l.length):dn args y i=dn args l i:=by
 obtain⟨r,rfl⟩:=h;obtain⟨q,j⟩:=Um args r (Hq args [] l);unfold dn dnA kd
 rw [Uk,<-j,AC,AC,BJ (by rw [H8];simpa using g)]
def Gr(l:Y15):Prop:= ∀(i:Nat)(n:Nd),l[i]?=some n-> ∀k∈n.ks,0<=k/\k<i
theorem sQ{args:Y12}{l:Y15}(r:Gr l){i:Nat}{n:Nd}(j:l[i]?=some n):dn args l i=Y0 args n.op n.im (n.ks.map fun q=>dn args l q.toNat):=by
 have m:i<l.length:=(AP.1 j).1;have e:l[i]=n:=(AP.1 j).2;have h1:l.take i++ [n]<+:l:=by
  rw [<-e,<-List.take_succ_eq_append_getElem m];exact ED _ _
 have g:(l.take i).length=i:=by rw [AR];omega
 rw [a5S h1 (by simp [g])];have p:dn args (l.take i++ [n]) i=Un args (dnA args (l.take i)) n:=by
  unfold dn dnA kd
  rw [Hr,AC,BA (by rw [H8,g];simp),H8,g];simp
 rw [p];unfold Un
 congr 1
 refine ET fun q y=>?_
 have:=r i n j q y;exact(a5S (ED i l) (i:=q.toNat) (by rw [g];omega)).symm
def Ty(l:Y15):Prop:= ∀i,i<l.length->(aE l).getD i 0≠0
theorem Ty.back{l:Y15}(h:Ty l):Gr l:=fun i n j k m=>by
 obtain⟨g,rfl⟩:=AP.1 j;have:=(kC g (h i g)).1 k m;exact⟨this.1,this.2.1⟩
def Dn.inR(d:Dn):Prop:=M13.inR d.w/\(∀a b,M13.inR (d.s a b))/\∀p∈d.t,M13.inR p.1/\∀a b,M13.inR (p.2 a b)
theorem zR:M13.inR 0:=by unfold M13.inR;omega
theorem a5O:dZ.inR:=⟨zR,fun _ _=>zR,fun p h=>by cases h⟩
theorem Fe{k:List Dn}(h: ∀d∈k,d.inR)(j:Nat):(kd k j).inR:=by
 unfold kd
 rw [AC];rcases BB j k.length with q|q
 ·rw [AA q];exact h _ (AH q)
 ·rw [BH q];exact a5O
theorem Hz{l:Y12}(h: ∀x∈l,M13.inR x)(j:Nat):M13.inR (l.getD j 0):=by
 rw [AC];rcases BB j l.length with q|q
 ·rw [AA q];exact h _ (AH q)
 ·rw [BH q];exact zR
theorem Jw{l:List (Int×Sta)}(h: ∀p∈l,M13.inR p.1/\∀a b,M13.inR (p.2 a b))(j:Nat):M13.inR (l.getD j (0,z0)).1/\∀a b,M13.inR ((l.getD j (0,z0)).2 a b):=by
 rw [AC];rcases BB j l.length with q|q
 ·rw [AA q];exact h _ (AH q)
 ·rw [BH q];exact⟨zR,fun _ _=>zR⟩
theorem b8H{args:Y12}(l: ∀x∈args,M13.inR x){op im:Int}(m:M13.inR im){k:List Dn}(j: ∀d∈k,d.inR):(Y0 args op im k).inR:=by
 have q:=Fe j;have g: ∀p∈ ([]:List (Int×Sta)),M13.inR p.1/\∀a b,M13.inR (p.2 a b):=fun p h=>by cases h
 unfold Y0
 repeat' split
 ·exact⟨m,fun _ _=>zR,g⟩
 ·exact⟨Hz l _,fun _ _=>zR,g⟩
 ·exact⟨T9 (q 0).1,fun _ _=>zR,g⟩
 ·exact⟨Fx _ _,fun _ _=>zR,g⟩
 ·exact q 1
 ·exact q 2
 ·exact⟨(q 0).2.1 _ _,fun _ _=>zR,g⟩
 ·exact⟨(Jw (q 0).2.2 _).1,(Jw (q 0).2.2 _).2,g⟩
 ·exact⟨zR,(q 0).2.1,g⟩
 ·refine⟨zR,fun a b=>?_,g⟩;dsimp only [upS];split
  ·exact(q 2).1
  ·exact(q 0).2.1 _ _
 ·refine⟨zR,fun _ _=>zR,fun p r=>?_⟩;obtain⟨d,hd,rfl⟩:=DR.1 r;exact⟨(j d hd).1,(j d hd).2.1⟩
 ·exact a5O
theorem Ul{args:Y12}(j: ∀x∈args,M13.inR x): ∀(l:Y15)(g:List Dn),(∀n∈l,M13.inR n.im)->(∀d∈g,d.inR)-> ∀d∈Hq args g l,d.inR
 | [],g,_,h=>h
 |n::r,g,hi,h=>Ul j r _ (fun m z=>hi m (BK _ z)) fun d hd=>by
  rcases BU.1 hd with q|q
  ·exact h d q
  ·rw [BN.1 q];refine b8H j (hi n AY) fun e y=>?_
   obtain⟨p,A,rfl⟩:=DR.1 y;exact Fe h _
theorem a5R{args:Y12}(g: ∀x∈args,M13.inR x){l:Y15}(j: ∀n∈l,M13.inR n.im)(i:Nat):(dn args l i).inR:=
 Fe (Ul g l [] j fun d h=>by cases h) i
def Dn.of(s:Int)(d:Dn):Prop:=(s=1->d=⟨d.w,z0,[]⟩)/\(s=2->d=⟨0,d.s,[]⟩)
theorem rI{e:Nat}{op im:Int}{k:Y12}{s:Int}(h:bJ e op im k=s)(h0:s≠0):
  (op=31/\s=3/\sI k=true) \/ (op=30/\s=2) \/ (op=25/\k=[3]/\(0<=im/\im<=15/\2*im+3<=e)/\s=if im=0 then 2 else 1) \/ (op=3/\(s=1\/s=2)) \/ (op=26/\s=2) \/ (op=22/\k=[1,s,s]) \/
  (op=23/\k=[2,1]/\s=1) \/ (op=24/\k=[2]/\s=1) \/ ((op=27\/op=29)/\k=[2,1]/\s=2) \/ (op=28/\k=[2,1,1]/\s=2) \/ ((op=1\/op=2\/ (4<=op/\op<=21))/\s=1/\(k.length:Int)=ar op/\∀x∈k,x=1):=by
 unfold bJ at h;split at h
 ·split at h
  ·rename_i a b;exact .inl ⟨a,h.symm,b.1⟩
  ·exact absurd h.symm h0
 split at h
 ·split at h
  ·rename_i a b;exact .inr (.inl ⟨a,h.symm⟩)
  ·exact absurd h.symm h0
 split at h
 ·split at h
  ·rename_i a b;exact .inr (.inr (.inl ⟨a,b.1,b.2,h.symm⟩))
  ·exact absurd h.symm h0
 have g:fI op im k≠0:=by rw [h];exact h0
 obtain⟨h1,h2,h3⟩:=Q3 g;unfold fI at h;rw [if_neg (by simp [h1,h2,h3])]at h;split at h
 ·rename_i a;refine .inr (.inr (.inr (.inl ⟨a,?_⟩)));split at h
  ·exact .inr h.symm
  ·exact .inl h.symm
 split at h
 ·rename_i a;exact .inr (.inr (.inr (.inr (.inl ⟨a,h.symm⟩))))
 split at h
 ·rename_i a;subst a;split at h
  ·exact absurd h.symm h0
  ·rename_i c;obtain⟨x,y,z,rfl⟩:=b9G (h2.trans JG);simp only [GY,GZ,not_or,HK]at c h;exact .inr (.inr (.inr (.inr (.inr (.inl ⟨rfl,by rw [c.1,<-c.2.1,h]⟩)))))
 split at h
 ·rename_i a;split at h
  ·rename_i b;exact .inr (.inr (.inr (.inr (.inr (.inr (.inl ⟨a,b,h.symm⟩))))))
  ·exact absurd h.symm h0
 split at h
 ·rename_i a;split at h
  ·rename_i b;exact .inr (.inr (.inr (.inr (.inr (.inr (.inr (.inl ⟨a,b,h.symm⟩)))))))
  ·exact absurd h.symm h0
 split at h
 ·rename_i a;split at h
  ·rename_i b;exact .inr (.inr (.inr (.inr (.inr (.inr (.inr (.inr (.inl ⟨a,b,h.symm⟩))))))))
  ·exact absurd h.symm h0
 split at h
 ·rename_i a;split at h
  ·rename_i b;exact .inr (.inr (.inr (.inr (.inr (.inr (.inr (.inr (.inr (.inl ⟨a,b,h.symm⟩)))))))))
  ·exact absurd h.symm h0
 split at h
 ·rename_i b;refine .inr (.inr (.inr (.inr (.inr (.inr (.inr (.inr (.inr (.inr ⟨?_,h.symm,h2,fun x j=>by simpa using BQ.1 b x j⟩)))))))));unfold mC at h1;rw [decide_eq_true_eq]at h1;omega
 ·exact absurd h.symm h0
theorem Vo{args:Y12}{l:Y15}(G:Ty l){q:Nat}(h:(aE l).getD q 0=3){j:Nat}(D:2*j+3<=(l.getD q default).ks.length):
  ((dn args l q).t.getD j (0,z0))=((dn args l ((l.getD q default).ks.getD j 0).toNat).w,(dn args l ((l.getD q default).ks.getD j 0).toNat).s)/\(aE l).getD ((l.getD q default).ks.getD j 0).toNat 0=(if j=0 then 2 else 1)/\(0<=(l.getD q default).ks.getD j 0/\(l.getD q default).ks.getD j 0<q):=by
 have L:=xT h;have y:=L.lt;have e:=bH (z:=default) y;have o:=L.op;have s:=L.ss;have A:=L.ks;rw [e]at D o s A⊢;have g:j<l[q].ks.length:=JF;have r:l[q].ks.getD j 0=l[q].ks[j]:=bH g;refine⟨?_,?_,by rw [r];have:=A _ (AH g);exact⟨this.1,this.2.1⟩⟩
 ·rw [sQ G.back (AA L.lt),o];show(((l[q].ks.map fun p=>dn args l p.toNat).map fun d=>(d.w,d.s)).getD j (0,z0))=_;rw [AC,BL,BL,AA g,r];rfl
 ·have m:(l[q].ks.map fun q=>(aE l).getD q.toNat 0)[j]?=some ((aE l).getD (l[q].ks[j]).toNat 0):=by
   rw [BL,AA g];rfl
  rw [s]at m;rw [r];unfold lsL at m
  cases j with
  |zero=>simpa using m.symm
  |succ j=>
   rw [FW,BJ (by rw [EJ];omega),List.getElem?_replicate_of_lt JF]at m;rw [if_neg JF];exact(BF m).symm
theorem b9J{f:Int->Int}{k:Y12}{a b c:Int}(h:k.map f=[a,b,c]): ∃x y z,k=[x,y,z]/\f x=a/\f y=b/\f z=c:=by
 match k,h with
 | [x,y,z],h=>simp only [BP,DJ,BI,and_true]at h;exact⟨x,y,z,rfl,h.1,h.2.1,h.2.2⟩
theorem d6J{f:Int->Int}{k:Y12}{a:Int}(h:k.map f=[a]): ∃x,k=[x]/\f x=a:=by
 match k,h with
 | [x],h=>simp only [BP,DJ,BI,and_true]at h;exact⟨x,rfl,h⟩
theorem Hs{args:Y12}{l:Y15}(p:Ty l): ∀(b i:Nat),i<b->i<l.length->Dn.of ((aE l).getD i 0) (dn args l i)
 |0,i,hb,_=>absurd hb (CF _)
 |b+1,i,hb,hi=>by
  obtain⟨D,O⟩:=kC hi (p i hi);have g:=sQ (args:=args) p.back (AA hi);rcases rI O.symm (p i hi)with⟨o,s,_⟩| ⟨o,s⟩| ⟨o,k,im,s⟩| ⟨o,s⟩| ⟨o,s⟩| ⟨o,k⟩| ⟨o,k,s⟩| ⟨o,k,s⟩| ⟨o,k,s⟩| ⟨o,k,s⟩| ⟨o,s,_⟩
  ·rw [s];exact⟨fun h=>JF,fun h=>JF⟩
  ·rw [s,g,o];exact⟨fun h=>JF,fun _=>rfl⟩
  ·obtain⟨q,m,Z⟩:=d6J k;have e:eK l l[i]=(l.getD q.toNat default).ks.length:=by unfold eK;rw [m];rfl
   rw [e]at im;obtain⟨j,G⟩: ∃j:Nat,l[i].im=(j:Int):=⟨l[i].im.toNat,JF⟩
   rw [G]at im s;obtain⟨R,V,l3⟩:=Vo (args:=args) p Z (j:=j) JF;have hq:=D q (by rw [m];exact AY);have r:=Hs (args:=args) p b ((l.getD q.toNat default).ks.getD j 0).toNat JF JF;rw [V]at r;rw [s,g,o,m];have A:Y0 args 25 l[i].im ([q].map fun q=>dn args l q.toNat)=⟨((dn args l q.toNat).t.getD j (0,z0)).1,((dn args l q.toNat).t.getD j (0,z0)).2,[]⟩:=by
    rw [G];rfl
   rw [A,R]
   by_cases c:j=0
   ·rw [if_pos c]at r;rw [if_pos JF];exact⟨fun h=>JF,fun _=>by rw [r.2 rfl]⟩
   ·rw [if_neg c]at r;rw [if_neg JF];exact⟨fun _=>by rw [r.1 rfl],fun h=>JF⟩
  ·rw [g,o];exact⟨fun _=>rfl,fun _=>rfl⟩
  ·rw [g,o];exact⟨fun _=>rfl,fun _=>rfl⟩
  ·obtain⟨x,y,z,m,s1,X,Y⟩:=b9J k;have hy:=D y (by rw [m];exact BK _ AY);have hz:=D z (by rw [m];exact BK _ (BK _ AY));have K:=Hs (args:=args) p b y.toNat JF JF;have L:=Hs (args:=args) p b z.toNat JF JF;rw [X]at K;rw [Y]at L;rw [g,o,m];have A:Y0 args 22 l[i].im ([x,y,z].map fun q=>dn args l q.toNat)=if(dn args l x.toNat).w≠0 then dn args l y.toNat else dn args l z.toNat:=rfl
   rw [A];split
   ·exact K
   ·exact L
  ·rw [s,g,o];exact⟨fun _=>rfl,fun h=>JF⟩
  ·rw [s,g,o];exact⟨fun _=>rfl,fun h=>JF⟩
  ·rw [s,g];refine⟨fun h=>JF,fun _=>?_⟩;rcases o with o|o<;>rw [o]<;>rfl
  ·rw [s,g,o];exact⟨fun h=>JF,fun _=>rfl⟩
  ·rw [s,g];refine⟨fun _=>?_,fun h=>JF⟩;unfold Y0
   split
   ·rfl
   split
   ·rfl
   split
   ·rfl
   split
   ·rfl
   ·omega
def IvS(l:Y15)(q:Nat)(r:Int×Int):Prop:=jK r/\∀args:Y12,(∀x∈args,M13.inR x)->fG r (dn args l q).w
theorem IvS.full{l:Y15}(j: ∀n∈l,M13.inR n.im)(q:Nat):IvS l q (lG,mF):=⟨dX,fun args g=>fH _ (a5R g j q).1⟩
theorem d6B{l:Y15}{p q:Nat}{a b:Int×Int}(j:jK a/\jK b)(h: ∀args:Y12,(∀x∈args,M13.inR x)->fG a (dn args l p).w/\(dn args l q).w=(dn args l p).w):IvS l q (ijn a b):=by
 refine⟨?_,fun args g=>?_⟩
 ·unfold jK M13.inR ijn at*
  simp only;omega
 ·have:=h args g;unfold fG ijn at*
  simp only;omega
theorem Kd{l:Y15}(hw:Ty l)(hi: ∀n∈l,M13.inR n.im): ∀i,i<=l.length-> ∀q,q<i->IvS l q ((rP l (fun _=>none) i).getD q (0,0))
 |0,_,q,hq=>absurd hq (CF _)
 |i+1,hle,q,hq=>by
  have V:=Kd hw hi i JF;have A:i<l.length:=hle;rw [rP,List.getD_eq_getElem?_getD];rcases BB q i with c|c
  ·rw [BJ (by rw [pC];exact c),<-List.getD_eq_getElem?_getD];exact V q c
  obtain rfl:q=i:=JF;rw [BA (by rw [pC];exact AG _),pC,GQ];show IvS l q (R9 l ((aE l).getD q 0) (fun _=>none) (rP l (fun _=>none) q) (l.getD q default));rw [bH A];generalize rP l (fun _=>none) q=R at V;have r:=IvS.full hi q;unfold R9
  split
  ·exact r
  rename_i a5;simp only [ne_eq,HK]at a5;split
  ·exact r
  obtain⟨hk,hs⟩:=kC A (hw q A);have ha:=fun args=>sQ (args:=args) hw.back (AA A)
  have inv:=rI hs.symm (hw q A);split
  ·rename_i o;rcases inv with⟨g,_⟩| ⟨g,_⟩| ⟨_,k,im,s⟩| ⟨g,_⟩| ⟨g,_⟩| ⟨g,_⟩| ⟨g,_⟩| ⟨g,_⟩| ⟨g,_⟩| ⟨g,_⟩| ⟨g,_⟩
   rotate_left 2
   ·obtain⟨p,ep,sp⟩:=d6J k;have e:eK l l[q]=(l.getD p.toNat default).ks.length:=by unfold eK;rw [ep];rfl
    rw [e]at im;obtain⟨j,ej⟩: ∃j:Nat,l[q].im=(j:Int):=⟨l[q].im.toNat,JF⟩
    rw [ej]at im;have hp:=hk p (by rw [ep];exact AY);have lo:=fun args=>Vo (args:=args) hw sp (j:=j) JF
    have L:=xT sp;have k0:sG l l[q]=l.getD p.toNat default:=by unfold sG;rw [ep];rfl
    rw [k0,ej,AK];unfold bI gR
    dsimp only;have a6:=(lo []).2.2;have h1:=V ((l.getD p.toNat default).ks.getD j 0).toNat JF;have a4:(l.getD p.toNat default).ks.getD (((l.getD p.toNat default).ks.length-1)/2+1+j) 0∈ (l.getD p.toNat default).ks:=by
     have:=L.odd;rw [bH (show((l.getD p.toNat default).ks.length-1)/2+1+j< (l.getD p.toNat default).ks.length by omega)];exact AH _
    have a7:=L.ks _ a4;have h2:=V ((l.getD p.toNat default).ks.getD (((l.getD p.toNat default).ks.length-1)/2+1+j) 0).toNat JF;refine d6B (p:=((l.getD p.toNat default).ks.getD j 0).toNat) ⟨h1.1,h2.1⟩ fun args D=>⟨h1.2 args D,?_⟩
    rw [ha,o,ep];have X:(Y0 args 25 l[q].im ([p].map fun q=>dn args l q.toNat)).w=((dn args l p.toNat).t.getD j (0,z0)).1:=by rw [ej];rfl
    rw [X,(lo args).1]
   all_goals omega
  rename_i o3 a8;unfold Nf
  split
  ·rename_i c;refine⟨⟨hi _ (AH A),hi _ (AH A)⟩,fun args D=>?_⟩;rw [ha,c];show fG (l[q].im,l[q].im) l[q].im;unfold fG;simp
  split
  ·rename_i c0 c;rcases inv with⟨g,_⟩| ⟨g,_⟩| ⟨g,_⟩| ⟨g,_⟩| ⟨g,_⟩| ⟨_,k⟩| ⟨g,_⟩| ⟨g,_⟩| ⟨g,_⟩| ⟨g,_⟩| ⟨g,_⟩
   rotate_left 5
   ·obtain⟨x,y,z,Z,s1,s2,s3⟩:=b9J k;have D:=hk x (by rw [Z];exact AY);have hy:=hk y (by rw [Z];exact BK _ AY);have hz:=hk z (by rw [Z];exact BK _ (BK _ AY));have h1:=V x.toNat JF;have h2:=V y.toNat JF;have h3:=V z.toNat JF;simp only [Z,GY,GZ];refine⟨Z8 h2.1.1 h2.1.2 h3.1.1 h3.1.2,fun args D=>?_⟩;rw [ha,c,Z];have X:(Y0 args 22 l[q].im ([x,y,z].map fun q=>dn args l q.toNat)).w=if(dn args l x.toNat).w≠0 then(dn args l y.toNat).w else(dn args l z.toNat).w:=by
     show(if(dn args l x.toNat).w≠0 then dn args l y.toNat else dn args l z.toNat).w=_;split<;>rfl
    rw [X];have O:=h1.2 args D;have a2:=h2.2 args D;have a3:=h3.2 args D;exact Xo O.1 O.2 a2.1 a2.2 a3.1 a3.2
   all_goals omega
  have hl: ∀m:Nat,m<l[q].ks.length->IvS l (l[q].ks.getD m 0).toNat (R.getD (l[q].ks.getD m 0).toNat (0,0)):=fun m hm=>by
   have:l[q].ks.getD m 0∈l[q].ks:=by rw [bH hm];exact AH hm
   exact V _ (by have:=hk _ this;omega)
  have Y: ∀(args:Y12)(m:Nat),m<l[q].ks.length->kd (l[q].ks.map fun q=>dn args l q.toNat) m=dn args l (l[q].ks.getD m 0).toNat:=fun args m hm=>by
   unfold kd
   rw [List.getD_eq_getElem?_getD,BL,AA hm,bH hm];rfl
  split
  ·rename_i c0 c1 c;have K:(l[q].ks.length:Int)=ar l[q].op:=by
    rcases inv with⟨g,_⟩| ⟨g,_⟩| ⟨g,_⟩| ⟨g,_⟩| ⟨g,_⟩| ⟨g,_⟩| ⟨g,_⟩| ⟨g,_⟩| ⟨g,_⟩| ⟨g,_⟩| ⟨_,_,h,_⟩
    rotate_left 10
    ·rw [<-h];simp
    all_goals omega
   have h1:l[q].ks.length=1:=by unfold ar at K;rw [if_neg JF,if_pos JF]at K;omega
   have G:=hl 0 JF;refine⟨Ih G.1.1 G.1.2,fun args D=>?_⟩;have X:(Y0 args l[q].op l[q].im (l[q].ks.map fun q=>dn args l q.toNat)).w=F4 l[q].op (kd (l[q].ks.map fun q=>dn args l q.toNat) 0).w:=by
    unfold Y0
    rw [if_neg c0,if_neg JF,if_neg JF,if_pos c]
   rw [ha,X,Y args 0 JF];have x:=G.2 args D;exact c6D c x.1 x.2 G.1.1 G.1.2
  split
  ·rename_i c0 c1 c2 c;have K:(l[q].ks.length:Int)=ar l[q].op:=by
    rcases inv with⟨g,_⟩| ⟨g,_⟩| ⟨g,_⟩| ⟨g,_⟩| ⟨g,_⟩| ⟨g,_⟩| ⟨g,_⟩| ⟨g,_⟩| ⟨g,_⟩| ⟨g,_⟩| ⟨_,_,h,_⟩
    rotate_left 10
    ·rw [<-h];simp
    all_goals omega
   have h1:l[q].ks.length=2:=by unfold ar at K;rw [if_neg JF,if_neg JF,if_pos JF]at K;omega
   have G:=hl 0 JF;have O:=hl 1 JF;refine⟨Z5 G.1.1 G.1.2 O.1.1 O.1.2,fun args D=>?_⟩;have X:(Y0 args l[q].op l[q].im (l[q].ks.map fun q=>dn args l q.toNat)).w=oG l[q].op (kd (l[q].ks.map fun q=>dn args l q.toNat) 0).w (kd (l[q].ks.map fun q=>dn args l q.toNat) 1).w:=by
    unfold Y0
    rw [if_neg c0,if_neg JF,if_pos c]
   rw [ha,X,Y args 0 JF,Y args 1 JF];have x:=G.2 args D;have y:=O.2 args D;exact a3P c x.1 x.2 y.1 y.2 G.1.1 G.1.2 O.1.1 O.1.2
  ·exact r
theorem d6T{l:Y15}(m:Ty l)(g: ∀n∈l,M13.inR n.im){q:Nat}(j:q<l.length):IvS l q ((rG l (fun _=>none)).getD q (0,0)):=Kd m g l.length (AG _) q j
structure Cn where
 k:Int
 a:Int
 b:Int
 n:Int
structure Ru where
 nm:Y11
 L:T
 R:T
 nv:Int
 ni:Int
 cs:List Cn
def r0:Ru:=⟨[97,100,100,45,116,117,114,110],T.mk 0 4 0 0 [T.mk 1 0 0 0 [],T.mk 2 0 0 0 []],T.mk 0 4 0 0 [T.mk 2 0 0 0 [],T.mk 1 0 0 0 []],2,0,[]⟩
def r1:Ru:=⟨[97,100,100,45,122,101,114,111],T.mk 0 4 0 0 [T.mk 1 0 0 0 [],T.mk 0 1 0 0 []],T.mk 1 0 0 0 [],1,0,[]⟩
def r2:Ru:=⟨[97,100,100,45,114,111,119],T.mk 0 4 0 0 [T.mk 0 4 0 0 [T.mk 1 0 0 0 [],T.mk 2 0 0 0 []],T.mk 3 0 0 0 []],T.mk 0 4 0 0 [T.mk 1 0 0 0 [],T.mk 0 4 0 0 [T.mk 2 0 0 0 [],T.mk 3 0 0 0 []]],3,0,[]⟩
def r3:Ru:=⟨[109,117,108,45,116,119,111],T.mk 0 6 0 0 [T.mk 1 0 0 0 [],T.mk 0 1 2 0 []],T.mk 0 4 0 0 [T.mk 1 0 0 0 [],T.mk 1 0 0 0 []],1,0,[]⟩
def r4:Ru:=⟨[109,117,108,45,115,104,108],T.mk 0 6 0 0 [T.mk 1 0 0 0 [],T.mk 0 1 4 0 []],T.mk 0 12 0 0 [T.mk 1 0 0 0 [],T.mk 0 1 2 0 []],1,0,[]⟩
def r5:Ru:=⟨[115,117,98,45,115,101,108,102],T.mk 0 5 0 0 [T.mk 1 0 0 0 [],T.mk 1 0 0 0 []],T.mk 0 1 0 0 [],1,0,[]⟩
def r6:Ru:=⟨[120,111,114,45,115,101,108,102],T.mk 0 11 0 0 [T.mk 1 0 0 0 [],T.mk 1 0 0 0 []],T.mk 0 1 0 0 [],1,0,[]⟩
def r7:Ru:=⟨[97,110,100,45,115,101,108,102],T.mk 0 9 0 0 [T.mk 1 0 0 0 [],T.mk 1 0 0 0 []],T.mk 1 0 0 0 [],1,0,[]⟩
def r8:Ru:=⟨[110,101,103,45,110,111,116],T.mk 0 20 0 0 [T.mk 1 0 0 0 []],T.mk 0 4 0 0 [T.mk 0 21 0 0 [T.mk 1 0 0 0 []],T.mk 0 1 1 0 []],1,0,[]⟩
def r9:Ru:=⟨[97,100,100,45,115,112,108,105,116],T.mk 0 4 0 0 [T.mk 1 0 0 0 [],T.mk 2 0 0 0 []],T.mk 0 4 0 0 [T.mk 0 11 0 0 [T.mk 1 0 0 0 [],T.mk 2 0 0 0 []],T.mk 0 12 0 0 [T.mk 0 9 0 0 [T.mk 1 0 0 0 [],T.mk 2 0 0 0 []],T.mk 0 1 1 0 []]],2,0,[]⟩
def Ng:Ru:=⟨[101,113,45,115,101,108,102],T.mk 0 15 0 0 [T.mk 1 0 0 0 [],T.mk 1 0 0 0 []],T.mk 0 1 1 0 [],1,0,[]⟩
def J0:Ru:=⟨[108,116,45,115,101,108,102],T.mk 0 17 0 0 [T.mk 1 0 0 0 [],T.mk 1 0 0 0 []],T.mk 0 1 0 0 [],1,0,[]⟩
def G9:Ru:=⟨[110,101,45,122,101,114,111],T.mk 0 16 0 0 [T.mk 1 0 0 0 [],T.mk 0 1 0 0 []],T.mk 0 1 1 0 [],1,0,[⟨1,1,0,0⟩]⟩
def W9:Ru:=⟨[108,116,45,108,101,97,115,116],T.mk 0 17 0 0 [T.mk 1 0 0 0 [],T.mk 0 1 0 0 []],T.mk 0 1 0 0 [],1,0,[⟨2,1,0,0⟩]⟩
def Gp:Ru:=⟨[115,101,108,45,115,97,109,101],T.mk 0 22 0 0 [T.mk 1 0 0 0 [],T.mk 2 0 0 0 [],T.mk 2 0 0 0 []],T.mk 2 0 0 0 [],2,0,[]⟩
def r15:Ru:=⟨[101,113,45,97,112,97,114,116],T.mk 0 15 0 0 [T.mk 1 0 0 0 [],T.mk 2 0 0 0 []],T.mk 0 1 0 0 [],2,0,[⟨4,1,2,0⟩]⟩
def Rs:Ru:=⟨[100,105,118,45,111,110,101],T.mk 0 7 0 0 [T.mk 1 0 0 0 [],T.mk 0 1 1 0 []],T.mk 1 0 0 0 [],1,0,[]⟩
def zL:Ru:=⟨[100,105,118,45,115,101,108,102],T.mk 0 7 0 0 [T.mk 1 0 0 0 [],T.mk 1 0 0 0 []],T.mk 0 1 1 0 [],1,0,[⟨1,1,0,0⟩]⟩
def Gq:Ru:=⟨[114,101,109,45,115,101,108,102],T.mk 0 8 0 0 [T.mk 1 0 0 0 [],T.mk 1 0 0 0 []],T.mk 0 1 0 0 [],1,0,[]⟩
def Nh:Ru:=⟨[110,101,101,100,45,116,114,117,101],T.mk 0 27 0 1 [T.mk 1 0 0 0 [],T.mk 2 0 0 0 []],T.mk 1 0 0 0 [],2,1,[⟨1,2,0,0⟩]⟩
def r20:Ru:=⟨[110,101,101,100,45,116,119,105,99,101],T.mk 0 27 0 1 [T.mk 0 27 0 1 [T.mk 1 0 0 0 [],T.mk 2 0 0 0 []],T.mk 2 0 0 0 []],T.mk 0 27 0 1 [T.mk 1 0 0 0 [],T.mk 2 0 0 0 []],2,1,[]⟩
def gT:Ru:=⟨[108,111,97,100,45,115,116,111,114,101],T.mk 0 23 0 1 [T.mk 0 28 0 1 [T.mk 1 0 0 0 [],T.mk 2 0 0 0 [],T.mk 3 0 0 0 []],T.mk 2 0 0 0 []],T.mk 3 0 0 0 [],3,1,[⟨5,2,1,0⟩]⟩
def r22:Ru:=⟨[108,111,97,100,45,97,112,97,114,116],T.mk 0 23 0 1 [T.mk 0 28 0 1 [T.mk 1 0 0 0 [],T.mk 2 0 0 0 [],T.mk 3 0 0 0 []],T.mk 4 0 0 0 []],T.mk 0 23 0 1 [T.mk 1 0 0 0 [],T.mk 4 0 0 0 []],4,1,[⟨4,2,4,0⟩]⟩
def r23:Ru:=⟨[108,111,97,100,45,111,116,104,101,114],T.mk 0 23 0 1 [T.mk 0 28 0 2 [T.mk 1 0 0 0 [],T.mk 2 0 0 0 [],T.mk 3 0 0 0 []],T.mk 4 0 0 0 []],T.mk 0 23 0 1 [T.mk 1 0 0 0 [],T.mk 4 0 0 0 []],4,2,[⟨6,1,2,0⟩]⟩
def r24:Ru:=⟨[108,111,97,100,45,110,101,101,100],T.mk 0 23 0 1 [T.mk 0 27 0 2 [T.mk 1 0 0 0 [],T.mk 2 0 0 0 []],T.mk 3 0 0 0 []],T.mk 0 23 0 1 [T.mk 1 0 0 0 [],T.mk 3 0 0 0 []],3,2,[]⟩
def r25:Ru:=⟨[108,111,97,100,45,111,117,116],T.mk 0 23 0 1 [T.mk 0 29 0 0 [T.mk 1 0 0 0 [],T.mk 2 0 0 0 []],T.mk 3 0 0 0 []],T.mk 0 23 0 1 [T.mk 1 0 0 0 [],T.mk 3 0 0 0 []],3,1,[]⟩
def r26:Ru:=⟨[115,116,111,114,101,45,108,111,97,100],T.mk 0 28 0 1 [T.mk 1 0 0 0 [],T.mk 2 0 0 0 [],T.mk 0 23 0 1 [T.mk 1 0 0 0 [],T.mk 2 0 0 0 []]],T.mk 1 0 0 0 [],2,1,[]⟩
def r27:Ru:=⟨[114,101,116,45,111,117,116],T.mk 0 24 0 0 [T.mk 0 29 0 0 [T.mk 1 0 0 0 [],T.mk 2 0 0 0 []]],T.mk 0 24 0 0 [T.mk 1 0 0 0 []],2,0,[]⟩
def cC:List Ru:=[r0,r1,r2,r3,r4,r5,r6,r7,r8,r9,Ng,J0,G9,W9,Gp,r15,Rs,zL,Gq,Nh,r20,gT,r22,r23,r24,r25,r26,r27]
mutual
def evT(args:Y12):T->List Dn->Y12->Dn
 | .mk v op im iv ks,vs,ms=>if 0<v then kd vs (v-1).toNat else Y0 args op (oF iv im ms) (b8L args ks vs ms)
def b8L(args:Y12):List T->List Dn->Y12->List Dn
 | [],_,_=>[]
 |t::r,vs,ms=>evT args t vs ms::b8L args r vs ms
end
theorem Az{l g:Y15}{n:Nd}(j:l<+:g)(h:(kQ g n).1=l):g=l/\∃i:Nat,l[i]?=some n/\(kQ g n).2=(i:Int):=by
 unfold kQ at h⊢
 cases hf:oV n g 0 with
 |some i=>
  rw [hf]at h;have e:g=l:=h;subst e;refine⟨rfl,i,?_,rfl⟩;have: ∀(l:Y15)(a i:Nat),oV n l a=some i->a<=i/\l[i-a]?=some n:=fun l=>by
   induction l with
   |nil=>intro a i h;cases h
   |cons x l ih=>
    intro a i h;unfold oV at h;split at h
    ·rename_i e
     cases h
     exact⟨AG _,by rw [GQ,e];rfl⟩
    ·obtain⟨h1,h2⟩:=ih _ _ h;exact⟨JF,by rw [show i-a=i- (a+1)+1 by omega,FW];exact h2⟩
  simpa using(this g 0 i hf).2
 |none=>
  rw [hf]at h;have e:g++ [n]=l:=h;have h1:=j.length_le;rw [<-e,AJ]at h1;exact absurd h1 JH
mutual
theorem Dr{args:Y12}{l:Y15}(hb:Gr l){vars imms:Y12} : ∀t:T,t.wi vars.length imms.length->(cB t vars imms l).1=l->dn args l (cB t vars imms l).2.toNat=evT args t (vars.map fun q=>dn args l q.toNat) imms
 | .mk v op im iv ks,hw,h=>by
  rw [evT]
  by_cases hv:0<v
  ·rw [if_pos hv,A0 hv];have:=hw.1;have hlt:(v-1).toNat<vars.length:=JF;have e1:vars.getD (v-1).toNat 0=vars[(v-1).toNat]:=bH hlt;have e2:kd (vars.map fun q=>dn args l q.toNat) (v-1).toNat=dn args l vars[(v-1).toNat].toNat:=by
    unfold kd
    rw [bH (by rw [BG];exact hlt),List.getElem_map]
   rw [e2,<-e1]
  ·rw [if_neg hv];rw [qY hv]at h⊢;obtain⟨e1,i,e2,e3⟩:=Az (nH ks vars imms l) h;rw [e3,AK,sQ hb e2];dsimp only;rw [Ig hb ks (by rcases hw.2 with q|q;exact absurd q hv;exact q.2) e1]
theorem Ig{args:Y12}{l:Y15}(hb:Gr l){vars imms:Y12} : ∀ks:List T,wis ks vars.length imms.length->(cH ks vars imms l).1=l->((cH ks vars imms l).2.map fun q=>dn args l q.toNat)=b8L args ks (vars.map fun q=>dn args l q.toNat) imms
 | [],_,_=>rfl
 |t::r,hw,h=>by
  rw [b8L];rw [cH]at h⊢;dsimp only at h⊢;have e:(cB t vars imms l).1=l:=by
   have p1:=uC t vars imms l;have p2:=nH r vars imms (cB t vars imms l).1;rw [h]at p2;obtain⟨a,ha⟩:=p1;obtain⟨b,hb2⟩:=p2;have e2:=congrArg List.length hb2;have e3:=congrArg List.length ha;simp only [AJ]at e2 e3;have:a=[]:=CS JF;rw [<-ha,this,DQ]
  rw [e]at h⊢;rw [BP,Dr hb t hw.1 e,Ig hb r hw.2 h]
end
def cOk(vs:List Dn)(ms:Y12)(c:Cn):Prop:=
 (c.k=1->(kd vs (c.a-1).toNat).w≠0)/\(c.k=2->c.n<=(kd vs (c.a-1).toNat).w)/\(c.k=4->(kd vs (c.a-1).toNat).w≠(kd vs (c.b-1).toNat).w)/\(c.k=6->ms.getD (c.a-1).toNat 0≠ms.getD (c.b-1).toNat 0)
def vop(op:Int):Prop:=(4<=op/\op<=21) \/op=23\/op=24
def sop(op:Int):Prop:=op=27\/op=28\/op=29
def xB(args:Y12)(r:Ru)(vs:List Dn)(ms:Y12):Prop:=
 evT args r.L vs ms=evT args r.R vs ms\/ (vop r.L.op/\(evT args r.L vs ms).w=(evT args r.R vs ms).w) \/ (sop r.L.op/\(evT args r.L vs ms).s=(evT args r.R vs ms).s)
theorem Ae: ∀(n x y:Nat),x<=n->(x^^^y)+2*(x&&&y)=x+y
 |0,x,y,h=>by
  obtain rfl:x=0:=JF;simp
 |n+1,x,y,h=>by
  by_cases hx:x=0
  ·subst hx;simp
  ·have r:=Ae n (x/2) (y/2) JF;have l:(x^^^y)/2=x/2^^^y/2:=Nat.xor_div_two;have m:(x&&&y)/2=x/2&&&y/2:=Nat.and_div_two;have g:=Nat.xor_mod_two_eq_one (a:=x) (b:=y);have j:=Nat.and_mod_two_eq_one (a:=x) (b:=y);rw [<-l,<-m]at r;generalize x^^^y=p at*
   generalize x&&&y=q at*
   have z:=GK p 2;have A:=GK q 2;rcases Nat.mod_two_eq_zero_or_one x with a|a<;>rcases Nat.mod_two_eq_zero_or_one y with b|b<;>simp only [a,b]at g j<;>simp at g j<;>omega
theorem Nq(a:Int):(((BitVec.ofInt IntKind.i64.bits a).toNat:Nat):Int)=a%18446744073709551616:=by
 have e:IntKind.i64.bits=64:=rfl;rw [e,BitVec.toNat_ofInt];omega
theorem b8A(a b:Int): ∃A B:Nat,(A:Int)=a%18446744073709551616/\(B:Int)=b%18446744073709551616/\G7 a b=IntKind.i64.wrap ((A^^^B:Nat):Int)/\sF a b=IntKind.i64.wrap ((A&&&B:Nat):Int):=
 ⟨_,_,Nq a,Nq b,by unfold G7;rw [BitVec.toNat_xor],by unfold sF;rw [BitVec.toNat_and]⟩
theorem e3Y{a b A B X Y:Int}(g:A=a%18446744073709551616)(hB:B=b%18446744073709551616)(h:X+2*Y=A+B):IntKind.i64.wrap (a+b)=IntKind.i64.wrap (IntKind.i64.wrap X+IntKind.i64.wrap (IntKind.i64.wrap Y*2)):=by
 simp only [DT];omega
theorem Zi(a b:Int):IntKind.i64.wrap (a+b)=IntKind.i64.wrap (G7 a b+IntKind.i64.wrap (sF a b*2)):=by
 obtain⟨A,B,l,hB,g,j⟩:=b8A a b;rw [g,j];exact e3Y l hB (by have:=Ae A A B (AG _);omega)
theorem w_0:IntKind.i64.wrap 0=0:=JG
theorem a0A{a:Int}(h:M13.inR a):sF a a=a:=by
 unfold sF
 rw [BitVec.and_self,Nq,DT];unfold M13.inR at h;omega
theorem a0E(a:Int):G7 a a=0:=by
 unfold G7
 rw [BitVec.xor_self];decide
theorem b0J{a:Int}(h:M13.inR a):nO a 1=a:=by
 unfold nO
 rw [if_neg JG,if_neg JG,Int.tdiv_one];exact gL h
theorem Bb{a:Int}(h:a≠0):nO a a=1:=by
 unfold nO
 rw [if_neg h];split
 ·rename_i c;rw [c];decide
 ·rw [Int.tdiv_self h];decide
theorem b0M(a:Int):oG 8 a a=0:=by
 show(if a=0 then 0 else IntKind.i64.wrap (a-IntKind.i64.wrap (nO a a*a)))=0;split
 ·rfl
 ·rename_i h;rw [Bb h,Int.one_mul];simp only [DT];omega
theorem d1X{s:Sta}{k i v:Int} :upS s k i v k i=v:=if_pos ⟨rfl,rfl⟩
theorem b1X{s:Sta}{k i v a b:Int}(h: ¬ (a=k/\b=i)):upS s k i v a b=s a b:=if_neg h
theorem b1Y{s:Sta}{k i:Int} :upS s k i (s k i)=s:=by
 funext a b;unfold upS
 split
 ·rename_i h;rw [h.1,h.2]
 ·rfl
section
variable {args:Y12} {vs:List Dn} {ms:Y12}
theorem vo{op:Int}(h:4<=op/\op<=21):vop op:= .inl h
theorem k0:xB args r0 vs ms:=by
 refine .inr (.inl ⟨vo (op:=4) JG,?_⟩);show IntKind.i64.wrap ((kd vs 0).w+(kd vs 1).w)=IntKind.i64.wrap ((kd vs 1).w+(kd vs 0).w);rw [Int.add_comm]
theorem k1(q: ∀j,M13.inR (kd vs j).w):xB args r1 vs ms:=by
 refine .inr (.inl ⟨vo (op:=4) JG,?_⟩);show IntKind.i64.wrap ((kd vs 0).w+0)=(kd vs 0).w;rw [Int.add_zero];exact gL (q 0)
theorem k2:xB args r2 vs ms:=by
 refine .inr (.inl ⟨vo (op:=4) JG,?_⟩);show IntKind.i64.wrap (IntKind.i64.wrap ((kd vs 0).w+(kd vs 1).w)+(kd vs 2).w)=IntKind.i64.wrap ((kd vs 0).w+IntKind.i64.wrap ((kd vs 1).w+(kd vs 2).w));simp only [DT];omega
theorem k3:xB args r3 vs ms:=by
 refine .inr (.inl ⟨vo (op:=6) JG,?_⟩);show IntKind.i64.wrap ((kd vs 0).w*2)=IntKind.i64.wrap ((kd vs 0).w+(kd vs 0).w);simp only [DT];omega
theorem k4:xB args r4 vs ms:=by
 refine .inr (.inl ⟨vo (op:=6) JG,?_⟩);show IntKind.i64.wrap ((kd vs 0).w*4)=IntKind.i64.wrap ((kd vs 0).w*2^min (C2 2).toNat IntKind.i64.bits);rw [show min (C2 2).toNat IntKind.i64.bits=2 by decide,show(2:Int) ^2=4 by decide]
theorem k5:xB args r5 vs ms:=by
 refine .inr (.inl ⟨vo (op:=5) JG,?_⟩);show IntKind.i64.wrap ((kd vs 0).w- (kd vs 0).w)=0;rw [Int.sub_self];exact w_0
theorem k6:xB args r6 vs ms:=by
 exact .inr (.inl ⟨vo (op:=11) JG,a0E _⟩)
theorem k7(q: ∀j,M13.inR (kd vs j).w):xB args r7 vs ms:=by
 exact .inr (.inl ⟨vo (op:=9) JG,a0A (q 0)⟩)
theorem k8(q: ∀j,M13.inR (kd vs j).w):xB args r8 vs ms:=by
 refine .inr (.inl ⟨vo (op:=20) JG,?_⟩);show IntKind.i64.wrap (0- (kd vs 0).w)=IntKind.i64.wrap (Ic (kd vs 0).w+1);rw [I4 (q 0)];simp only [DT];omega
theorem k9:xB args r9 vs ms:=by
 refine .inr (.inl ⟨vo (op:=4) JG,?_⟩);show IntKind.i64.wrap ((kd vs 0).w+(kd vs 1).w)=IntKind.i64.wrap (G7 (kd vs 0).w (kd vs 1).w+IntKind.i64.wrap (sF (kd vs 0).w (kd vs 1).w*2^min (C2 1).toNat IntKind.i64.bits));rw [show min (C2 1).toNat IntKind.i64.bits=1 by decide,show(2:Int) ^1=2 by decide];exact Zi _ _
theorem k10:xB args Ng vs ms:=by
 refine .inr (.inl ⟨vo (op:=15) JG,?_⟩);show fL ((kd vs 0).w==(kd vs 0).w)=1;rw [beq_self_eq_true];rfl
theorem k11:xB args J0 vs ms:=by
 refine .inr (.inl ⟨vo (op:=17) JG,?_⟩);show fL (decide ((kd vs 0).w< (kd vs 0).w))=0;rw [decide_eq_false (Int.lt_irrefl _)];rfl
theorem k12(g: ∀c∈G9.cs,cOk vs ms c):xB args G9 vs ms:=by
 refine .inr (.inl ⟨vo (op:=16) JG,?_⟩);have:(kd vs 0).w≠0:=(g _ AY).1 rfl;show fL ((kd vs 0).w !=0)=1;rw [bne_iff_ne.2 this];rfl
theorem k13(g: ∀c∈W9.cs,cOk vs ms c):xB args W9 vs ms:=by
 refine .inr (.inl ⟨vo (op:=17) JG,?_⟩);have:0<=(kd vs 0).w:=(g _ AY).2.1 rfl;show fL (decide ((kd vs 0).w<0))=0;rw [decide_eq_false (Int.not_lt.2 this)];rfl
theorem k14:xB args Gp vs ms:=by
 refine .inl ?_;show(if(kd vs 0).w≠0 then kd vs 1 else kd vs 1)=kd vs 1;split<;>rfl
theorem k15(g: ∀c∈r15.cs,cOk vs ms c):xB args r15 vs ms:=by
 refine .inr (.inl ⟨vo (op:=15) JG,?_⟩);have:(kd vs 0).w≠(kd vs 1).w:=(g _ AY).2.2.1 rfl;show fL ((kd vs 0).w==(kd vs 1).w)=0;rw [beq_eq_false_iff_ne.2 this];rfl
theorem k16(q: ∀j,M13.inR (kd vs j).w):xB args Rs vs ms:=by
 exact .inr (.inl ⟨vo (op:=7) JG,b0J (q 0)⟩)
theorem k17(g: ∀c∈zL.cs,cOk vs ms c):xB args zL vs ms:=by
 exact .inr (.inl ⟨vo (op:=7) JG,Bb ((g _ AY).1 rfl)⟩)
theorem k18:xB args Gq vs ms:=by
 exact .inr (.inl ⟨vo (op:=8) JG,b0M _⟩)
theorem k19:xB args Nh vs ms:=by
 exact .inr (.inr ⟨.inl rfl,rfl⟩)
theorem k20:xB args r20 vs ms:=by
 refine .inr (.inr ⟨.inl rfl,?_⟩);show(kd vs 0).s=(kd vs 0).s;rfl
theorem k21:xB args gT vs ms:=by
 exact .inr (.inl ⟨.inr (.inl rfl),d1X⟩)
theorem k22(g: ∀c∈r22.cs,cOk vs ms c):xB args r22 vs ms:=by
 refine .inr (.inl ⟨.inr (.inl rfl),b1X fun h=>?_⟩);exact(g _ AY).2.2.1 rfl h.2.symm
theorem k23(g: ∀c∈r23.cs,cOk vs ms c):xB args r23 vs ms:=by
 refine .inr (.inl ⟨.inr (.inl rfl),b1X fun h=>?_⟩);exact(g _ AY).2.2.2 rfl h.1
theorem k24:xB args r24 vs ms:=by
 refine .inr (.inl ⟨.inr (.inl rfl),?_⟩);show(kd vs 0).s (oF 1 0 ms) (kd vs 2).w=(kd vs 0).s (oF 1 0 ms) (kd vs 2).w;rfl
theorem k25:xB args r25 vs ms:=by
 refine .inr (.inl ⟨.inr (.inl rfl),?_⟩);show(kd vs 0).s (oF 1 0 ms) (kd vs 2).w=(kd vs 0).s (oF 1 0 ms) (kd vs 2).w;rfl
theorem k26:xB args r26 vs ms:=by
 exact .inr (.inr ⟨.inr (.inl rfl),b1Y⟩)
theorem k27:xB args r27 vs ms:=by
 exact .inl rfl
end
theorem a8C{args:Y12}{r:Ru}(l:r∈cC){vs:List Dn}(m: ∀d∈vs,d.inR)(g: ∀c∈r.cs,cOk vs K c):xB args r vs K:=by
 have q:=fun j=>(Fe m j).1
 simp only [cC,CD,DU,or_false]at l;rcases l with rfl|rfl|rfl|rfl|rfl|rfl|rfl|rfl|rfl|rfl|rfl|rfl|rfl|rfl|rfl|rfl|rfl|rfl|rfl|rfl|rfl|rfl|rfl|rfl|rfl|rfl|rfl|rfl
 ·exact k0
 ·exact k1 q
 ·exact k2
 ·exact k3
 ·exact k4
 ·exact k5
 ·exact k6
 ·exact k7 q
 ·exact k8 q
 ·exact k9
 ·exact k10
 ·exact k11
 ·exact k12 g
 ·exact k13 g
 ·exact k14
 ·exact k15 g
 ·exact k16 q
 ·exact k17 g
 ·exact k18
 ·exact k19
 ·exact k20
 ·exact k21
 ·exact k22 g
 ·exact k23 g
 ·exact k24
 ·exact k25
 ·exact k26
 ·exact k27
def gI(u:Y12)(k:Nat):Nat:=(u.getD k 0).toNat
structure UF(E:Nat->Nat->Prop)(u:Y12)(rh rep:Nat->Nat):Prop where
 rng: ∀k,k<u.length->0<=u.getD k 0/\u.getD k 0<u.length
 up: ∀k,k<u.length->gI u k≠k->rh (gI u k)<rh k
 rt: ∀k,k<u.length->gI u k=k->rep k=k
 re: ∀k,k<u.length->rep (gI u k)=rep k
 eq: ∀k,k<u.length->E k (gI u k)
theorem a6E{i k:Nat}{v:Int}(g:i<K.length):gI (K.set i v) k=if i=k then v.toNat else gI K k:=by
 unfold gI
 rw [AC,List.getElem?_set];split
 ·(try rw [if_pos g])
  rfl
 ·rw [AC]
theorem getD_set{i k:Nat}{v:Int}(g:i<K.length):(K.set i v).getD k 0=if i=k then v else K.getD k 0:=by
 rw [AC,List.getElem?_set];split
 ·(try rw [if_pos g])
  rfl
 ·rw [AC]
variable {E:Nat->Nat->Prop} {u:Y12} {rh rep:Nat->Nat}
theorem UF.lt(h:UF E u rh rep){k:Nat}(g:k<u.length):gI u k<u.length:=by
 have:=h.rng k g;unfold gI
 omega
theorem UF.halve(m:Equivalence E)(h:UF E u rh rep){i:Nat}(j:i<u.length):UF E (u.set i (u.getD (gI u i) 0)) rh rep:=by
 have h1:=h.lt j;have h2:=h.lt h1;have r2:=h.rng _ h1;have e:(u.getD (gI u i) 0).toNat=gI u (gI u i):=rfl;refine⟨fun k g=>?_,fun k g=>?_,fun k g=>?_,fun k g=>?_,fun k g=>?_⟩<;>rw [BX]at g
 ·rw [getD_set j,BX];split
  ·exact r2
  ·exact h.rng k g
 all_goals rw [a6E j]
 ·split
  ·rename_i c;subst c;rw [e];intro l
   by_cases c1:gI u i=i
   ·rw [c1]at l;exact absurd c1 l
   ·have:=h.up i j c1
    by_cases c2:gI u (gI u i)=gI u i
    ·rw [c2];exact this
    ·exact JA (h.up _ h1 c2) this
  ·exact h.up k g
 ·split
  ·rename_i c;subst c;rw [e];intro l
   by_cases c1:gI u i=i
   ·exact h.rt i j c1
   ·exfalso;have:=h.up i j c1
    by_cases c2:gI u (gI u i)=gI u i
    ·rw [c2]at l;exact c1 l
    ·have q:=h.up _ h1 c2;rw [l]at q;omega
  ·exact h.rt k g
 ·split
  ·rename_i c;subst c;rw [e,h.re _ h1,h.re _ j]
  ·exact h.re k g
 ·split
  ·rename_i c;subst c;rw [e];exact m.trans (h.eq i j) (h.eq _ h1)
  ·exact h.eq k g
theorem UF.link(K:Equivalence E)(h:UF E u rh rep){a b:Nat}(l:a<u.length)(A:b<u.length)(r:gI u a=a)(G:gI u b=b)(p:E a b): ∃rh2 rep2,UF E (u.set a (b:Int)) rh2 rep2:=by
 by_cases c:a=b
 ·subst c;refine⟨rh,rep,?_⟩;have e:u.set a (a:Int)=u:=by
   refine CY fun j=>?_
   rw [List.getElem?_set];split
   ·rename_i c;subst c
    (try rw [if_pos l])
    rw [AA l];have:=h.rng a l;have z:u.getD a 0=u[a]:=bH l;unfold gI at r;rw [z]at r this
    congr 1
    omega
   ·rfl
  rw [e];exact h
 have y:=h.rt a l r;have pb:=h.rt b A G;refine⟨fun k=>if rep k=a then rh k+rh b+1 else rh k,fun k=>if rep k=a then b else rep k,?_⟩;have m:((b:Int)).toNat=b:=AK b;refine⟨fun k g=>?_,fun k g=>?_,fun k g=>?_,fun k g=>?_,fun k g=>?_⟩<;>rw [BX]at g
 ·rw [getD_set l,BX];split
  ·omega
  ·exact h.rng k g
 all_goals rw [a6E l]
 ·split
  ·rename_i c1;subst c1;rw [m];intro _;rw [if_pos y,if_neg (by rw [pb];exact fun q=>c q.symm)];omega
  ·intro D;have:=h.up k g D;rw [h.re k g];split<;>omega
 ·split
  ·rename_i c1;subst c1;rw [m];intro q;exact absurd q.symm c
  ·rename_i c1;intro q;have:=h.rt k g q;rw [this,if_neg (fun q=>c1 q.symm)]
 ·split
  ·rename_i c1;subst c1;rw [m,pb,if_neg (fun q=>c q.symm),if_pos y]
  ·rw [h.re k g]
 ·split
  ·rename_i c1;subst c1;rw [m];exact p
  ·exact h.eq k g
theorem UF.rep_eq(j:Equivalence E)(h:UF E u rh rep): ∀(d i:Nat),rh i<d->i<u.length->rep i<u.length/\gI u (rep i)=rep i/\E i (rep i)
 |0,i,hd,_=>absurd hd (CF _)
 |d+1,i,hd,hi=>by
  by_cases c:gI u i=i
  ·rw [h.rt i hi c];exact⟨hi,c,j.refl i⟩
  ·have:=h.up i hi c;have g:=UF.rep_eq j h d (gI u i) JF (h.lt hi);rw [h.re i hi]at g;exact⟨g.1,g.2.1,j.trans (h.eq i hi) g.2.2⟩
theorem UF.rep_e(g:Equivalence E)(h:UF E u rh rep){i:Nat}(j:i<u.length):E i (rep i):=(h.rep_eq g _ i (AV _) j).2.2
theorem UF.same(g:Equivalence E)(h:UF E u rh rep){i j:Nat}(l:i<u.length)(m:j<u.length)(e:rep i=rep j):E i j:=
 g.trans (h.rep_e g l) (by rw [e];exact g.symm (h.rep_e g m))
def idL(n:Nat):Y12:=(List.range n).map fun(m:Nat)=>(m:Int)
theorem Dq(n:Nat):(idL n).length=n:=by unfold idL;simp
theorem Pm{n k:Nat}(h:k<n):(idL n).getD k 0=(k:Int):=by
 unfold idL
 rw [AC,BL,FP h];rfl
theorem UF.init(l:Equivalence E)(n:Nat):UF E (idL n) (fun _=>0) (fun k=>k):=by
 have g: ∀k,k< (idL n).length->gI (idL n) k=k:=fun k j=>by
  unfold gI
  rw [Pm (by rwa [Dq]at j),AK]
 refine⟨fun k j=>?_,fun k j=>?_,fun k j=>fun _=>rfl,fun k j=>g k j,fun k j=>by rw [g k j];exact l.refl k⟩
 ·rw [Pm (by rwa [Dq]at j)];omega
 ·rw [g k j];intro q;exact absurd rfl q
structure Ste where
 l:Int
 r:Int
 y:Int
 vs:Y12
 ms:Y12
 deriving Inhabited
def Ste.ok(s:Ste):Prop:=(aU s.l/\aU s.r/\aU s.y)/\(∀x∈s.vs,aU x)/\(∀x∈s.ms,aU x)/\s.vs.length<=1000/\s.ms.length<=1000
def iT(s:Ste):Y14:=[.int .i64 s.l,.int .i64 s.r,.int .i64 s.y,.vslice none 0 s.vs.length 1 (s.vs.map (IV.int .i64)),.vslice none 0 s.ms.length 1 (s.ms.map (IV.int .i64))]
def W2(l:Y15)(i j:Nat):Prop:= ∀args:Y12,(∀x∈args,M13.inR x)->dn args l i=dn args l j
theorem W2.eqv(l:Y15):Equivalence (W2 l):=⟨fun _ _ _=>rfl,fun h a j=>(h a j).symm,fun h g a j=>(h a j).trans (g a j)⟩
def iV(l:Y15)(i:Int):Prop:=0<=i/\i<l.length
def SOk(l:Y15)(s:Ste):Prop:=iV l s.l/\iV l s.r/\(s.y≠0->W2 l s.l.toNat s.r.toNat)
theorem c4T{args:Y12}{l:Y15}(j:Ty l){i:Nat}(g:i<l.length)(h1:(aE l).getD i 0=1):dn args l i=⟨(dn args l i).w,z0,[]⟩:=(Hs j (i+1) i (AV _) g).1 h1
theorem c4S{args:Y12}{l:Y15}(j:Ty l){i:Nat}(g:i<l.length)(h1:(aE l).getD i 0=2):dn args l i=⟨0,(dn args l i).s,[]⟩:=(Hs j (i+1) i (AV _) g).2 h1
theorem b1L{l:Y15}(j:Ty l){i:Nat}(g:i<l.length)(h:vop l[i].op):(aE l).getD i 0=1:=by
 have m:=(kC g (j i g)).2;unfold vop at h;rcases rI m.symm (j i g)with⟨o,s,_⟩| ⟨o,s⟩| ⟨o,k,im,s⟩| ⟨o,s⟩| ⟨o,s⟩| ⟨o,k⟩| ⟨o,k,s⟩| ⟨o,k,s⟩| ⟨o,k,s⟩| ⟨o,k,s⟩| ⟨o,s,_⟩
 all_goals first|exact s| (exfalso;omega)
theorem b1K{l:Y15}(j:Ty l){i:Nat}(g:i<l.length)(h:sop l[i].op):(aE l).getD i 0=2:=by
 have m:=(kC g (j i g)).2;unfold sop at h;rcases rI m.symm (j i g)with⟨o,s,_⟩| ⟨o,s⟩| ⟨o,k,im,s⟩| ⟨o,s⟩| ⟨o,s⟩| ⟨o,k⟩| ⟨o,k,s⟩| ⟨o,k,s⟩| ⟨o,k,s⟩| ⟨o,k,s⟩| ⟨o,s,_⟩
 all_goals first|exact s| (exfalso;omega)
theorem b8W{l:Y15}{t:T}{g imms:Y12}(r: ¬0<t.v)(h:(cB t g imms l).1=l): ∃i:Nat,(cB t g imms l).2=(i:Int)/\∃h:i<l.length,l[i].op=t.op:=by
 cases t with
 |mk v op im iv ks=>
  have m: ¬0<v:=r;rw [qY m]at h⊢;obtain⟨y,i,p,q⟩:=Az (nH ks g imms l) h;obtain⟨j,e⟩:=AP.1 p;exact⟨i,q,j,by rw [e];rfl⟩
theorem b9B{r:Ru}(g:r∈cC): ¬0<r.L.v:=by
 have:cC.all (fun r=>decide (¬0<r.L.v))=true:=JG;simpa using BQ.1 this r g
theorem Iq{l y:Y15}(h:l<+:y)(e:y.length=l.length):y=l:=by
 obtain⟨r,rfl⟩:=h;rw [AJ]at e;rw [CS (show r.length=0 by omega),DQ]
theorem b0R{l:Y15}(y:Ty l)(X: ∀n∈l,M13.inR n.im){r:Ru}(G:r∈cC){g imms:Y12}{i j:Nat}(Y: ∀q∈g,iV l q)
  (wL:r.L.wi g.length imms.length) (wR:r.R.wi g.length imms.length)
  (hL:(cB r.L g imms l).1.length=l.length/\(cB r.L g imms l).2=(i:Int)) (hR:(cB r.R g imms l).1.length=l.length/\(cB r.R g imms l).2=(j:Int))
  (hj:j<l.length) (hs:(aE l).getD i 0=(aE l).getD j 0)
  (hc: ∀args:Y12,(∀x∈args,M13.inR x)-> ∀c∈r.cs,cOk (g.map fun q=>dn args l q.toNat) imms c):W2 l i j:=fun args D=>by
 have A:=Iq (uC r.L g imms l) hL.1;have V:=Iq (uC r.R g imms l) hR.1;have K:=Dr (args:=args) y.back r.L wL A;have O:=Dr (args:=args) y.back r.R wR V;rw [hL.2,AK]at K;rw [hR.2,AK]at O;obtain⟨Z,q1,p,q2⟩:=b8W (b9B G) A;have:Z=i:=by rw [hL.2]at q1;omega
 subst this;have m:=a8C (args:=args) G (vs:=g.map fun q=>dn args l q.toNat) (fun d hd=>by
  obtain⟨q,_,rfl⟩:=DR.1 hd;exact a5R D X _) (hc args D)
 unfold xB at m;rw [<-K,<-O,<-q2]at m;rcases m with m| ⟨z,m⟩| ⟨z,m⟩
 ·exact m
 ·have h1:=b1L y p z;rw [c4T y p h1,c4T y hj (hs▸h1),m]
 ·have h1:=b1K y p z;rw [c4S y p h1,c4S y hj (hs▸h1),m]
theorem a5M{l:Y15}(m:Ty l){i j:Nat}(r:i<l.length)(y:j<l.length)(g:l[i].op=l[j].op/\l[i].im=l[j].im/\l[i].ks.length=l[j].ks.length)(z: ∀q,q<l[i].ks.length->W2 l (l[i].ks.getD q 0).toNat (l[j].ks.getD q 0).toNat):W2 l i j:=fun args p=>by
 rw [sQ m.back (AA r),sQ m.back (AA y),g.1,g.2.1]
 congr 1
 refine CY fun q=>?_
 rw [BL,BL];rcases BB q l[i].ks.length with c|c
 ·have c2:q<l[j].ks.length:=JF;have:=z q c args p;rw [bH c,bH c2]at this;rw [AA c,AA c2,DE,DE,this]
 ·rw [BH c,BH JF]
theorem b8F{l:Y15}(V:Ty l)(O: ∀n∈l,M13.inR n.im){g imms:Y12}(R: ∀q∈g,iV l q){H:List (Int×Int)}(hH:H=g.map fun q=>(rG l (fun _=>none)).getD q.toNat (0,0)){c:Cn}
  (h:if c.k=6 then imms.getD (c.a-1).toNat 0≠imms.getD (c.b-1).toNat 0 else holds c.k c.a c.b c.n H L=true) {args:Y12} (ha: ∀x∈args,M13.inR x):cOk (g.map fun q=>dn args l q.toNat) imms c:=by
 have y: ∀p:Int,St H p=true->fG (vr H p) (kd (g.map fun q=>dn args l q.toNat) (p-1).toNat).w:=fun p z=>by
  have A:=z;unfold St at z;simp at z;have D:H.length=g.length:=by rw [hH,BG]
  have m:(p-1).toNat<g.length:=JF;have G:vr H p=(rG l (fun _=>none)).getD g[(p-1).toNat].toNat (0,0):=by
   unfold vr
   rw [if_pos A,hH,AC,BL,AA m];rfl
  have K:kd (g.map fun q=>dn args l q.toNat) (p-1).toNat=dn args l g[(p-1).toNat].toNat:=by
   unfold kd
   rw [bH (by rw [BG];exact m),List.getElem_map]
  rw [G,K];have:=R _ (AH m);unfold iV at this;exact(d6T V O JF).2 args ha
 refine⟨fun j=>?_,fun j=>?_,fun j=>?_,fun j=>?_⟩
 ·rw [if_neg JF]at h;unfold holds at h;split at h
  ·cases h
  rename_i r;have:=y c.a (by simpa using r)
  (try rw [if_pos j]at h)
  intro e;rw [e]at this;rw [Fi this]at h
  cases h
 ·rw [if_neg JF]at h;unfold holds at h;split at h
  ·cases h
  rename_i r;have:=y c.a (by simpa using r);simp only [j,show¬ ((2:Int)=1) by decide,if_false]at h;rw [decide_eq_true_eq]at h;exact Int.le_trans h this.1
 ·rw [if_neg JF]at h;unfold holds at h;split at h
  ·cases h
  rename_i r;have h1:=y c.a (by simpa using r);simp only [j,show¬ ((4:Int)=1) by decide,show¬ ((4:Int)=2) by decide,show¬ ((4:Int)=3) by decide,if_false]at h;rw [AD,CC]at h;have h2:=y c.b h.1;intro e;have h3:=h.2;unfold pP at h3;rw [decide_eq_false_iff_not]at h3;unfold fG at h1 h2;rw [e]at h1;omega
 ·rw [if_pos j]at h;exact h
structure WS(l:Y15):Prop where
 ok: ∀n∈l,lV n/\n.ks.length<=40
 wf:Ty l
 ln:1<=l.length/\l.length<=1000000
theorem WS.back{l:Y15}(h:WS l):c6J l:=h.wf.back
theorem WS.im{l:Y15}(h:WS l): ∀n∈l,M13.inR n.im:=fun n g=>(h.ok n g).1.2.1
def vw(args:Y12)(l:Y15)(i:Nat):Int:=(dn args l i).w
def kw(args:Y12)(l:Y15)(n:Nd)(j:Nat):Int:=vw args l (n.ks.getD j 0).toNat
theorem Yd{l:Y15}(h:WS l){i:Nat}(g:i<l.length)(m:l[i].op=1\/l[i].op=2\/ (4<=l[i].op/\l[i].op<=21)):(l[i].ks.length:Int)=ar l[i].op:=by
 have j:=(kC g (h.wf i g)).2;rcases rI j.symm (h.wf i g)with⟨o,s,_⟩| ⟨o,s⟩| ⟨o,k,im,s⟩| ⟨o,s⟩| ⟨o,s⟩| ⟨o,k⟩| ⟨o,k,s⟩| ⟨o,k,s⟩| ⟨o,k,s⟩| ⟨o,k,s⟩| ⟨o,s,h,_⟩
 rotate_left 10
 ·rw [<-h];simp
 all_goals omega
theorem WS.nkl{l:Y15}(h:WS l){i:Nat}(g:i<l.length):nk l[i].op<=l[i].ks.length:=by
 by_cases o22:l[i].op=22
 ·have j:=(kC g (h.wf i g)).2;rcases rI j.symm (h.wf i g)with⟨o,s,_⟩| ⟨o,s⟩| ⟨o,k,im,s⟩| ⟨o,s⟩| ⟨o,s⟩| ⟨o,k⟩| ⟨o,k,s⟩| ⟨o,k,s⟩| ⟨o,k,s⟩| ⟨o,k,s⟩| ⟨o,s,h,_⟩
  rotate_left 5
  ·obtain⟨x,y,z,e,_⟩:=b9J k;rw [o,e];exact AG 3
  all_goals omega
 ·by_cases o:4<=l[i].op/\l[i].op<=21
  ·have h1:=Yd h g (.inr (.inr o));unfold ar at h1;unfold nk
   repeat' split at h1
   all_goals repeat' split
   all_goals omega
  ·unfold nk
   repeat' split
   all_goals omega
theorem d9Z{l:Y15}(h:WS l){i:Nat}(g:i<l.length)(j:l[i].op=2):0<=l[i].im:=by
 have m:=(kC g (h.wf i g)).2;have h0:=h.wf i g;rw [m,nsG JF]at h0;have:=(Q3 h0).2.2;unfold iH at this;rw [decide_eq_true_eq,j]at this;have e:B1 2=5:=JG;omega
theorem d9Y{args:Y12}{l:Y15}(z:c6J l){i:Nat}{n:Nd}(A:l[i]?=some n)(p:nk n.op<=n.ks.length):vw args l i=
  (if n.op=1 then n.im
 else if n.op=2 then args.getD n.im.toNat 0
 else if 4<=n.op/\n.op<=19 then oG n.op (kw args l n 0) (kw args l n 1)
 else if n.op=20\/n.op=21 then F4 n.op (kw args l n 0)
 else if n.op=22 then(if kw args l n 0≠0 then kw args l n 1 else kw args l n 2)
 else vw args l i):=by
 have g: ∀m:Nat,m<n.ks.length->kd (n.ks.map fun q=>dn args l q.toNat) m=dn args l (n.ks.getD m 0).toNat:=fun m y=>by
  unfold kd
  rw [AC,BL,AA y,bH y];rfl
 have e:vw args l i=(Y0 args n.op n.im (n.ks.map fun q=>dn args l q.toNat)).w:=by
  unfold vw
  rw [sQ z A]
 unfold nk at p;split
 ·rename_i c;rw [e,c];rfl
 split
 ·rename_i c;rw [e,c];rfl
 split
 ·rename_i j c1 c;rw [if_pos c]at p;rw [e];unfold Y0 kw vw
  rw [if_neg j,if_neg c1,if_pos c,g 0 JF,g 1 JF]
 split
 ·rename_i j c1 c2 c;rw [if_neg c2,if_pos c]at p;rw [e];unfold Y0 kw vw
  rw [if_neg j,if_neg c1,if_neg c2,if_pos c,g 0 JF]
 split
 ·rename_i j c1 c2 r c;rw [if_neg c2,if_neg r,if_pos c]at p;rw [e];unfold Y0 kw vw
  rw [if_neg j,if_neg c1,if_neg c2,if_neg r,if_pos c,g 0 JF,g 1 JF,g 2 JF];split<;>rfl
 ·rfl
def VOw(args:Y12)(l:Y15)(i j:Nat)(c g:Y12):Prop:=g.length=i+1/\∀(q:Nat)(x:Int),q<j->c[q]?=some x->g[x.toNat]?=some (vw args l x.toNat)
theorem VOw.set{args:Y12}{l:Y15}{i j:Nat}{c g:Y12}(h:VOw args l i j c g){x:Int}(p:c[j]?=some x)(r:x.toNat<g.length):VOw args l i (j+1) c (g.set x.toNat (vw args l x.toNat)):=by
 refine⟨by rw [BX];exact h.1,fun q y z m=>?_⟩;rw [List.getElem?_set];split
 ·rename_i e;simp [e]
 ·rcases BB q j with d|d
  ·exact h.2 q y d m
  ·obtain rfl:q=j:=JF;rw [p,AB]at m;subst m;rename_i e;exact absurd rfl e
def FD(id:Nat)(u g:Y12)(h h2:Heap):Prop:=(g.length=u.length/\h2.get id= .cells (g.map (IV.int .i64)))/\h2.next=h.next/\∀j,j≠id->h2.get j=h.get j
def CE(E:Nat->Nat->Prop)(l:Y15)(ss:List Ste):Prop:= ∀s∈ss,iV l s.l->iV l s.r->(s.y≠0->E s.l.toNat s.r.toNat)/\
 (s.y=0->(l.getD s.l.toNat default).op=(l.getD s.r.toNat default).op->(l.getD s.l.toNat default).im=(l.getD s.r.toNat default).im->(l.getD s.l.toNat default).ks.length=(l.getD s.r.toNat default).ks.length->
  (∀q,q< (l.getD s.l.toNat default).ks.length->iV l ((l.getD s.l.toNat default).ks.getD q 0)->iV l ((l.getD s.r.toNat default).ks.getD q 0)->E ((l.getD s.l.toNat default).ks.getD q 0).toNat ((l.getD s.r.toNat default).ks.getD q 0).toNat)->
  (∀q,q< (l.getD s.l.toNat default).ks.length->iV l ((l.getD s.l.toNat default).ks.getD q 0)/\iV l ((l.getD s.r.toNat default).ks.getD q 0))->E s.l.toNat s.r.toNat)
structure CnH(l:Y15)(ss:List Ste)(a b:Int)(g:Heap)(u:Y12):Prop where
 g0:g.get 0= .cells [.vslice none 0 l.length 3 (l.flatMap cN),.vslice none 0 ss.length 5 (ss.flatMap iT),.int .i64 a,.int .i64 b]
 g1:g.get 1= .cells (u.map (IV.int .i64))
 ul:u.length=l.length
 nx:2<=g.next
def fA(ss:List Ste)(t:Nat):Ste:=ss.getD t default
def nL(l:Y15)(ss:List Ste)(t:Nat):Nd:=l.getD (fA ss t).l.toNat default
def nR(l:Y15)(ss:List Ste)(t:Nat):Nd:=l.getD (fA ss t).r.toNat default
theorem zU: ∀{ss:List Ste}{t j:Nat}(h:t<ss.length),j<5->(ss.flatMap iT)[t*5+j]?=(iT ss[t])[j]?
 |s::r,0,j,_,hj=>by
  rw [BD,EG,AX,BJ (by exact hj)];rfl
 |s::r,t+1,j,h,hj=>by
  rw [BD,BA (by show 5<=_;omega),show(t+1)*5+j- (iT s).length=t*5+j by show(t+1)*5+j-5=_;omega];exact zU (ss:=r) (by simpa using h) hj
theorem pS: ∀ss:List Ste,aP (ss.flatMap iT)=true
 | []=>rfl
 |s::r=>by
  have:=pS r;rw [BD,eO,this,AL];simp only [iT,aP,bG,bC,AL]
theorem c4W{ss:List Ste}{t o:Nat}{K:Int->Int->Int->Y10->Nat->Nat->Y14->Y10->Nat->Nat->Y14->Prop}(h:t<ss.length)(D:o=t*5)
  (hk:K ss[t].l ss[t].r ss[t].y none 0 ss[t].vs.length (ss[t].vs.map (IV.int .i64)) none 0 ss[t].ms.length (ss[t].ms.map (IV.int .i64))):
  aG .i64 (ss.flatMap iT) o fun a=>aG .i64 (ss.flatMap iT) (o+1) fun b=>aG .i64 (ss.flatMap iT) (o+1+1) fun c=>aZ 1 (ss.flatMap iT) (o+1+1+1) fun p q r s=>aZ 1 (ss.flatMap iT) (o+1+1+1+1) fun G L r2 O=>K a b c p q r s G L r2 O:=by
 subst D;have e0:=zU (j:=0) h JG;have g:=zU (j:=1) h JG;have m:=zU (j:=2) h JG;have z:=zU (j:=3) h JG;have A:=zU (j:=4) h JG;rw [EP]at e0;exact dN e0 (dN g (dN m (a8F z (a8F A hk))))
def vS(c:Cn):Y14:=[.int .i64 c.k,.int .i64 c.a,.int .i64 c.b,.int .i64 c.n]
def bS(r:Ru):Y14:= .str r.nm::(cT r.L++(cT r.R++ [.vslice none 0 r.cs.length 4 (r.cs.flatMap vS),.int .i64 r.nv,.int .i64 r.ni]))
theorem Ct(r:Ru):(bS r).length=14:=by
 unfold bS
 rw [AW,AJ,AJ,L4,L4];rfl
def HP(h h2:Heap):Prop:=h.next<=h2.next/\∀j,j<h.next->h2.get j=h.get j
theorem HP.refl{h:Heap} :HP h h:=⟨AG _,fun _ _=>rfl⟩
theorem HP.trans{a b c:Heap}(x:HP a b)(y:HP b c):HP a c:=⟨CW x.1 y.1,fun j g=>(y.2 j (BS g x.1)).trans (x.2 j g)⟩
theorem HP.push{h:Heap}{x:IObj} :HP h (h.push x):=⟨EE _,fun j g=>aQ g⟩
theorem HP.push2{h g:Heap}{x:IObj}(y:HP h g):HP h (g.push x):=y.trans HP.push
theorem HP.set{h g:Heap}{j:Nat}{x:IObj}(y:HP h g)(m:h.next<=j):HP h (g.set j x):=⟨y.1,fun q l=>(aH JF).trans (y.2 q l)⟩
structure CkH(rl:List Ru)(lens:Y12)(l:Y15)(id is:Nat)(h:Heap):Prop where
 g0:h.get id= .cells [.vslice none 0 rl.length 14 (rl.flatMap bS),.vslice none 0 lens.length 1 (lens.map (IV.int .i64)),.vslice none 0 l.length 3 (l.flatMap cN),.hslice is 0 l.length 1,.vslice none 0 l.length 2 ((rG l (vZ [])).flatMap cR)]
 g1:h.get is= .cells ((aE l).map (IV.int .i64))
 ne:id≠is
 lt:id<h.next/\is<h.next
theorem CkH.mono{rl:List Ru}{l:Y15}{id g:Nat}{h h2:Heap}(c:CkH rl K l id g h)(p:HP h h2):CkH rl K l id g h2:=
 ⟨(p.2 _ c.lt.1).trans c.g0,(p.2 _ c.lt.2).trans c.g1,c.ne,BS c.lt.1 p.1,BS c.lt.2 p.1⟩
theorem Ax: ∀cs:List Cn,aP (cs.flatMap vS)=true
 | []=>rfl
 |c::r=>by
  have:=Ax r;rw [BD,eO,this,AL];rfl
theorem Rr(r:Ru):aP (bS r)=true:=by
 unfold bS
 simp only [aP,bG,eO,Jy,Ax,AL]
theorem mU: ∀rl:List Ru,aP (rl.flatMap bS)=true
 | []=>rfl
 |r::rl=>by rw [BD,eO,Rr,mU rl];rfl
theorem Cs: ∀{rl:List Ru}{t j:Nat}(h:t<rl.length),j<14->(rl.flatMap bS)[t*14+j]?=(bS rl[t])[j]?
 |s::r,0,j,_,hj=>by
  rw [BD,EG,AX,BJ (by rw [Ct];exact hj)];rfl
 |s::r,t+1,j,h,hj=>by
  rw [BD,BA (by rw [Ct];omega),Ct,show(t+1)*14+j-14=t*14+j by omega];exact Cs (rl:=r) (by simpa using h) hj
theorem qO: ∀{cs:List Cn}{t j:Nat}(h:t<cs.length),j<4->(cs.flatMap vS)[t*4+j]?=(vS cs[t])[j]?
 |s::r,0,j,_,hj=>by
  rw [BD,EG,AX,BJ (by exact hj)];rfl
 |s::r,t+1,j,h,hj=>by
  rw [BD,BA (by show 4<=_;omega),show(t+1)*4+j- (vS s).length=t*4+j by show(t+1)*4+j-4=_;omega];exact qO (cs:=r) (by simpa using h) hj
def kOk(r:Ru):Bool:=decide (1<=r.nv/\r.nv<=4/\0<=r.ni/\r.ni<=2/\r.L.num<=10/\r.R.num<=10/\r.cs.length<=1) &&r.cs.all fun c=>decide (1<=c.a/\c.a<=4/\0<=c.b/\c.b<=4/\aU c.n/\1<=c.k/\c.k<=6/\(c.k=6->c.a<=r.ni/\1<=c.b/\c.b<=r.ni)/\(c.k=5->1<=c.b/\c.b<=r.ni))
theorem a0H{r:Ru}(g:r∈cC):kOk r=true:=by
 have:cC.all kOk=true:=JG;exact BQ.1 this r g
theorem L9{args:Y12}{l:Y15}(g:Gr l){i:Nat}(j:i<l.length)(o:l[i].op=1):dn args l i=⟨l[i].im,z0,[]⟩:=by
 rw [sQ g (AA j),o];rfl
theorem Rb{l:Y15}(p:WS l){i:Nat}(j:i<l.length){m:Nat}(g:m<l[i].ks.length):0<=l[i].ks.getD m 0/\l[i].ks.getD m 0<i/\(l[i].ks.getD m 0).toNat<l.length:=by
 have e:l[i].ks.getD m 0=l[i].ks[m]:=bH g;have:=p.back i _ (AA j) _ (AH g);rw [e];omega
theorem Z9{args:Y12}{l:Y15}{i:Nat}(j:i<l.length){m:Nat}(g:m<l[i].ks.length):kd (l[i].ks.map fun q=>dn args l q.toNat) m=dn args l (l[i].ks.getD m 0).toNat:=by
 unfold kd
 rw [AC,BL,AA g,bH g];rfl
theorem Fd{args:Y12}{l:Y15}(g:WS l){i:Nat}(j:i<l.length){m:Nat}(p:m<l[i].ks.length)(c:(l.getD (l[i].ks.getD m 0).toNat default).op=1):
  dn args l (l[i].ks.getD m 0).toNat=⟨(l.getD (l[i].ks.getD m 0).toNat default).im,z0,[]⟩:=by
 have h:=Rb g j p;have e:l.getD (l[i].ks.getD m 0).toNat default=l[(l[i].ks.getD m 0).toNat]:=bH h.2.2;rw [e]at c⊢;exact L9 g.wf.back h.2.2 c
theorem d5Y{l:Y15}(m:WS l){i j:Nat}(g:i<l.length)(q:j<l.length)(r:4<=l[i].op/\l[i].op<=21)(h1:l[i].ks.length=1)(c:(l.getD (l[i].ks.getD 0 0).toNat default).op=1)(y:l[j].op=1)
  (e:l[j].im=F4 l[i].op (l.getD (l[i].ks.getD 0 0).toNat default).im):W2 l i j:=fun args p=>by
 have p:=Yd m g (.inr (.inr r));have h2:l[i].op=20\/l[i].op=21:=by
  unfold ar at p
  repeat' split at p
  all_goals omega
 rw [L9 m.wf.back q y,sQ m.wf.back (AA g),e];unfold Y0
 rw [if_neg JF,if_neg JF,if_neg JF,if_pos h2,Z9 g JF,Fd m g JF c]
theorem sU{l:Y15}(m:WS l){i j:Nat}(g:i<l.length)(r:j<l.length)(y:4<=l[i].op/\l[i].op<=21)(h1:l[i].ks.length≠1)(c: ∀q,q<l[i].ks.length->(l.getD (l[i].ks.getD q 0).toNat default).op=1)(z:l[j].op=1)
  (e:l[j].im=oG l[i].op (l.getD (l[i].ks.getD 0 0).toNat default).im (l.getD (l[i].ks.getD 1 0).toNat default).im):W2 l i j:=fun args p=>by
 have p:=Yd m g (.inr (.inr y));have h2:(4<=l[i].op/\l[i].op<=19)/\l[i].ks.length=2:=by
  unfold ar at p
  repeat' split at p
  all_goals omega
 rw [L9 m.wf.back r z,sQ m.wf.back (AA g),e];unfold Y0
 rw [if_neg JF,if_neg JF,if_pos h2.1,Z9 g JF,Z9 g JF,Fd m g JF (c 0 JF),Fd m g JF (c 1 JF)]
theorem ar2{l:Y15}(p:WS l){i:Nat}(j:i<l.length)(m:4<=l[i].op/\l[i].op<=21):l[i].ks.length<=2/\1<=l[i].ks.length:=by
 have g:=Yd p j (.inr (.inr m));unfold ar at g
 repeat' split at g
 all_goals omega
theorem d8E{l:Y15}(j:WS l){i:Nat}(g:i<l.length)(p:l[i].op=22):l[i].ks.length=3:=by
 have m:=(kC g (j.wf i g)).2;rcases rI m.symm (j.wf i g)with⟨o,s,_⟩| ⟨o,s⟩| ⟨o,k,im,s⟩| ⟨o,s⟩| ⟨o,s⟩| ⟨o,k⟩| ⟨o,k,s⟩| ⟨o,k,s⟩| ⟨o,k,s⟩| ⟨o,k,s⟩| ⟨o,s,h,_⟩
 rotate_left 5
 ·obtain⟨x,y,z,e,_⟩:=b9J k;rw [e];rfl
 all_goals omega
theorem d5Z{l:Y15}(j:WS l){i:Nat}(g:i<l.length)(m:l[i].op=22)(c:(l.getD (l[i].ks.getD 0 0).toNat default).op=1):
  ((l.getD (l[i].ks.getD 0 0).toNat default).im≠0->W2 l i (l[i].ks.getD 1 0).toNat)/\((l.getD (l[i].ks.getD 0 0).toNat default).im=0->W2 l i (l[i].ks.getD 2 0).toNat):=by
 have h3:=d8E j g m;have e: ∀args,dn args l i=if(l.getD (l[i].ks.getD 0 0).toNat default).im≠0 then dn args l (l[i].ks.getD 1 0).toNat else dn args l (l[i].ks.getD 2 0).toNat:=fun args=>by
  rw [sQ j.wf.back (AA g),m];show(if(kd _ 0).w≠0 then kd _ 1 else kd _ 2)=_;rw [Z9 g JF,Z9 g JF,Z9 g JF,Fd j g JF c]
 exact⟨fun h args _=>by rw [e,if_pos h],fun h args _=>by rw [e,if_neg (fun q=>q h)]⟩
structure RuX where
 g:Heap
 j:Nat
 io:Nat
 iq:Nat
def E8(l:Y15)(vs:Y12):List (Int×Int):=vs.map fun q=>(rG l (vZ [])).getD q.toNat (0,0)
def G8(g ms:Y12):Y12:=ms.map fun(n:Int)=>if 0<=n/\n<g.length then g.getD n.toNat 0 else 0
structure rowT(h g:Heap)(io n:Nat):Prop where
 tp:g.get io= .tip n
 ge:h.next<=io
 lt:io<g.next
def Hi(s:Ste)(g:Y12)(l:Y15)(c:Cn):Prop:=if c.k=6 then s.ms.getD (c.a-1).toNat 0≠s.ms.getD (c.b-1).toNat 0 else holds c.k c.a c.b c.n (E8 l s.vs) (G8 g s.ms)=true
def On(s:Ste)(g:Y12)(l:Y15)(cs:List Cn)(j:Nat):Prop:=j<=cs.length/\∀(q:Nat)(c:Cn),q<j->cs[q]?=some c->Hi s g l c
def vSo(l:Y15)(vs:Y12)(j:Nat):Prop:=j<=vs.length/\∀q,q<j->iV l (vs.getD q 0)
def iSo(l:Y15)(s:Ste)(L R:T):Prop:=((mH l L s.vs s.ms).1.length=l.length/\(mH l L s.vs s.ms).2=s.l)/\((mH l R s.vs s.ms).1.length=l.length/\(mH l R s.vs s.ms).2=s.r)
theorem Ke{l:Y15}{vs:Y12}{j:Nat}(g:j<vs.length)(m:(vs.getD j 0).toNat< (rG l (vZ [])).length):(E8 l (vs.take (j+1))).flatMap cR=(E8 l (vs.take j)).flatMap cR++ [.int .i64 (rG l (vZ []))[(vs.getD j 0).toNat].1,.int .i64 (rG l (vZ []))[(vs.getD j 0).toNat].2]:=by
 have e:vs.getD j 0=vs[j]:=bH g;unfold E8
 rw [AZ g,CB,CG]
 congr 1
 rw [BP,DJ,<-e,bH m];rfl
def lnE(g:Y12)(n:Int):Int:=if 0<=n/\n<g.length then g.getD n.toNat 0 else 0
theorem pM{j:Nat}(g:j<L.length){v:Int}(l:v=lnE K (L.getD j 0)):(G8 K (L.take (j+1))).map (IV.int .i64)=(G8 K (L.take j)).map (IV.int .i64)++ [.int .i64 v]:=by
 have e:L.getD j 0=L[j]:=bH g;unfold G8
 rw [AZ g,CB,CB,l,e];rfl
theorem uI(l:Y15)(vs:Y12):(E8 l vs).length=vs.length:=by unfold E8;rw [BG]
theorem I8(g ms:Y12):(G8 g ms).length=ms.length:=by unfold G8;rw [BG]
theorem Vn(h: ∀x∈K,M13.inR x): ∀x∈G8 K L,M13.inR x:=fun x g=>by
 unfold G8 at g;obtain⟨n,_,rfl⟩:=DR.1 g;split
 ·exact Hz h _
 ·exact zR
theorem a0I{r:Ru}(g:r∈cC):r.L.ok/\r.R.ok:=by
 simp only [cC,CD,DU,or_false]at g;rcases g with rfl|rfl|rfl|rfl|rfl|rfl|rfl|rfl|rfl|rfl|rfl|rfl|rfl|rfl|rfl|rfl|rfl|rfl|rfl|rfl|rfl|rfl|rfl|rfl|rfl|rfl|rfl|rfl
 all_goals (constructor<;>simp [r0,r1,r2,r3,r4,r5,r6,r7,r8,r9,Ng,J0,G9,W9,Gp,r15,Rs,zL,Gq,Nh,r20,gT,r22,r23,r24,r25,r26,r27,T.ok,oks,aU])
theorem If{l:Y15}{t:T}{vs ms:Y12}{i:Int}(h:(mH l t vs ms).1.length=l.length/\(mH l t vs ms).2=i)(g:0<=i):t.wi vs.length ms.length/\(cB t vs ms l).1.length=l.length/\(cB t vs ms l).2=(i.toNat:Int):=by
 unfold mH at h;split at h
 ·rename_i c;exact⟨(Xy c.1).1,h.1,by rw [h.2];omega⟩
 ·exfalso;have:=h.2;dsimp only at this;omega
theorem Kh{l:Y15}(p:WS l){r:Ru}(hr:r∈cC){s:Ste}(iL:iV l s.l)(A:iV l s.r)(z:(aE l).getD s.l.toNat 0=(aE l).getD s.r.toNat 0)(hv:vSo l s.vs s.vs.length)(D:iSo l s r.L r.R)(hc:On s K l r.cs r.cs.length):W2 l s.l.toNat s.r.toNat:=by
 obtain⟨G,O,V⟩:=If D.1 iL.1;obtain⟨X,Y,Z⟩:=If D.2 A.1;have m: ∀q∈s.vs,iV l q:=fun q hq=>by
  obtain⟨j,g,rfl⟩:=CT.1 hq;have:=hv.2 j g;rw [bH g]at this;exact this
 refine b0R p.wf p.im hr m G X ⟨O,V⟩ ⟨Y,Z⟩ (by have:=A.1;have:=A.2;omega) z fun args ha c y=>?_
 obtain⟨j,g,rfl⟩:=CT.1 y;have:=hc.2 j _ g (AA g);exact b8F p.wf p.im m (H:=E8 l s.vs) rfl this ha
end Go.M23
end
section
namespace Go.M23
open Go.Pv
def isD(c:Int):Bool:=c==40||c==41||c==59||c==58||c==44
def bA(s:Y11)(i:Nat):Int:=((s.getD i 0).toNat:Int)
def Dd(s:Y11)(k:Nat):Bool:=decide (k<s.length) &&decide (bA s k>32) &&decide (bA s k<127) &&!isD (bA s k) && (bA s k !=47||decide (k+1>=s.length)||bA s (k+1) !=47)
def wE(s:Y11):Nat->Nat->Nat
 |0,k=>k
 |f+1,k=>if Dd s k then wE s f (k+1)else k
def cCm(s:Y11)(k:Nat):Bool:=decide (k<s.length) &&bA s k !=10
def cmE(s:Y11):Nat->Nat->Nat
 |0,k=>k
 |f+1,k=>if cCm s k then cmE s f (k+1)else k
def Nc(c:Int):Bool:=c==32||c==9||c==10||c==13
def A1(s:Y11)(i:Nat):Bool:=bA s i==47&&decide (i+1<s.length) &&bA s (i+1)==47
abbrev qM:=Y11×Nat
def vA(t:qM):Y14:=[.str t.1,.int .i64 (t.2:Int)]
def lJ(s:Y11):Nat->Nat->List qM×Int
 |0,_=>([],-1)
 |f+1,i=>if i<s.length then
   let c:=bA s i
   if Nc c then lJ s f (i+1)
   else if A1 s i then lJ s f (cmE s s.length i)
   else if isD c then let r:=lJ s f (i+1); (((s.drop i).take 1,i)::r.1,r.2)
   else if decide (c>32) &&decide (c<127)then let k:=wE s s.length i;let r:=lJ s f k; (((s.drop i).take (k-i),i)::r.1,r.2)
   else([],i)
  else([],-1)
structure TkX where
 o:List qM
 i:Nat
 k:Nat
 b:Bool
 v:IV
 g:Heap
def dL(o:List qM)(v:IV)(g:Heap):Prop:=(o=[]/\v= .nilslice/\g=Heap.mk PT.nil 0) \/ (o≠[]/\v= .vslice (some 0) (o.length*2) o.length 2 (o.flatMap vA)/\g=(Heap.mk PT.nil 0).push (.tip (o.length*2)))
def bN(b:Bool):Nat:=if b then 1 else 0
def tY(s:Y11)(o:List qM)(i:Nat):Prop:=i<=s.length/\o.length<=i/\∃f,s.length-i<f/\lJ s (s.length+1) 0=(o++(lJ s f i).1,(lJ s f i).2)
def Zh(s:Y11)(o:List qM)(i:Nat)(b:Bool):Prop:=i<=s.length/\o.length<=i/\(b=false->cCm s i=true)/\∃f g,s.length-i<=g/\s.length-i<=f/\(b=true->s.length-i<f)/\lJ s (s.length+1) 0=(o++(lJ s f (cmE s g i)).1,(lJ s f (cmE s g i)).2)
def Nb(s:Y11)(o:List qM)(i k:Nat)(b:Bool):Prop:=i<s.length/\i<=k/\k<=s.length/\o.length<=i/\(b=true->i<k)/\(b=false->Dd s k=true)/\∃f g,s.length-k<=g/\s.length-i<=f/\lJ s (s.length+1) 0=(o++((s.drop i).take (wE s g k-i),i)::(lJ s f (wE s g k)).1,(lJ s f (wE s g k)).2)
theorem a1E(l:List qM):aP (l.flatMap vA)=true:=by
 induction l with
 |nil=>rfl
 |cons a l ih=>exact ih
section
variable {s:Y11} {o:List qM} {i k:Nat} {b:Bool}
theorem Df{K:Int->Prop}(h:i<s.length)(g:K (bA s i)):nC s ((i:Int).toNat) K:=by
 unfold nC
 rw [AK,AA h];have:bA s i=(s[i].toNat:Int):=by
  unfold bA
  rw [AC,AA h];rfl
 rw [this]at g;exact g
theorem tY.init:tY s [] 0:=⟨BE _,AG _,s.length+1,JF,JH⟩
theorem tY.done(h:tY s o i)(g: ¬i<s.length):lJ s (s.length+1) 0=(o,-1):=by
 obtain⟨_,_,f,hf,e⟩:=h;obtain⟨f,rfl⟩: ∃f',f=f'+1:=⟨f-1,JF⟩
 rw [e,lJ,if_neg g,DQ]
theorem tY.blank(h:tY s o i)(j:i<s.length)(g:Nc (bA s i)=true):tY s o (i+1):=by
 obtain⟨_,_,f,hf,e⟩:=h;obtain⟨f,rfl⟩: ∃f',f=f'+1:=⟨f-1,JF⟩
 refine⟨JF,JF,f,JF,?_⟩;rw [e,lJ,if_pos j];simp only [g,if_true]
theorem tY.com(h:tY s o i)(j:i<s.length)(l:Nc (bA s i)=false)(g:A1 s i=true):Zh s o i false:=by
 obtain⟨_,_,f,hf,e⟩:=h;obtain⟨f,rfl⟩: ∃f',f=f'+1:=⟨f-1,JF⟩
 refine⟨JF,JF,fun _=>?_,f,s.length,JF,JF,fun c=>(by cases c),?_⟩
 ·unfold A1 at g;rw [AD,AD,beq_iff_eq]at g;unfold cCm
  rw [g.1.1,decide_eq_true j];rfl
 ·rw [e,lJ,if_pos j];simp only [l,g,if_true,if_false,AU]
theorem Zh.step(h:Zh s o i b)(j:cCm s i=true):Zh s o (i+1) true:=by
 obtain⟨_,_,_,f,g,l,hf,_,e⟩:=h;have m:i<s.length:=by
  unfold cCm at j;rw [AD,decide_eq_true_eq]at j;exact j.1
 obtain⟨g,rfl⟩: ∃f',g=f'+1:=⟨g-1,JF⟩
 refine⟨JF,JF,fun c=>(by cases c),f,g,JF,JF,fun _=>JF,?_⟩;rw [e,cmE,if_pos j]
theorem Zh.fin(h:Zh s o i b)(l:cCm s i=false):tY s o i/\b=true:=by
 obtain⟨h1,h2,h3,f,g,q,hf,m,e⟩:=h;have j:b=true:=by
  cases b
  ·rw [h3 rfl]at l
   cases l
  ·rfl
 have p:cmE s g i=i:=by
  cases g
  ·rfl
  ·rw [cmE,l];rfl
 rw [p]at e;exact⟨⟨h1,h2,f,m j,e⟩,j⟩
theorem tY.del(h:tY s o i)(l:i<s.length)(g:Nc (bA s i)=false)(j:A1 s i=false)(hd:isD (bA s i)=true):tY s (o++ [((s.drop i).take 1,i)]) (i+1):=by
 obtain⟨_,_,f,hf,e⟩:=h;obtain⟨f,rfl⟩: ∃f',f=f'+1:=⟨f-1,JF⟩
 refine⟨JF,by rw [AJ,List.length_singleton];omega,f,JF,?_⟩;rw [e,lJ,if_pos l];simp only [g,j,hd,if_true,if_false,AU,CI,EK]
theorem tY.word(h:tY s o i)(j:i<s.length)(l:Nc (bA s i)=false)(g:A1 s i=false)(hd:isD (bA s i)=false)(h1:bA s i>32)(h2:bA s i<127):Nb s o i i false:=by
 obtain⟨_,_,f,hf,e⟩:=h;obtain⟨f,rfl⟩: ∃f',f=f'+1:=⟨f-1,JF⟩
 refine⟨j,AG _,JF,JF,fun c=>(by cases c),fun _=>?_,f,s.length,JF,JF,?_⟩
 ·unfold Dd
  unfold A1 at g;rw [decide_eq_true j,decide_eq_true h1,decide_eq_true h2,hd];simp only [Bool.and_eq_false_iff,beq_eq_false_iff_ne,decide_eq_false_iff_not]at g;simp only [BC,DK,CJ,bne_iff_ne,decide_eq_true_eq];rcases g with(g|g)|g
  ·exact Or.inl (Or.inl g)
  ·exact Or.inl (Or.inr JF)
  ·exact Or.inr g
 ·rw [e,lJ,if_pos j];simp only [l,g,hd,h1,h2,if_true,if_false,AU,decide_true,AL]
theorem tY.bad(h:tY s o i)(l:i<s.length)(g:Nc (bA s i)=false)(j:A1 s i=false)(hd:isD (bA s i)=false)(h1: ¬ (bA s i>32/\bA s i<127)):(lJ s (s.length+1) 0).2≠ -1:=by
 obtain⟨_,_,f,hf,e⟩:=h;obtain⟨f,rfl⟩: ∃f',f=f'+1:=⟨f-1,JF⟩
 have m:(decide (bA s i>32) &&decide (bA s i<127))=false:=by
  rw [Bool.eq_false_iff];intro c;rw [AD,decide_eq_true_eq,decide_eq_true_eq]at c;exact h1 c
 rw [e,lJ,if_pos l];simp only [g,j,hd,m,if_false,AU];omega
theorem Nb.step(h:Nb s o i k b)(j:Dd s k=true):Nb s o i (k+1) true:=by
 obtain⟨l,m,_,_,_,_,f,g,p,hf,e⟩:=h;have q:k<s.length:=by
  unfold Dd at j;simp only [AD,decide_eq_true_eq]at j;exact j.1.1.1.1
 obtain⟨g,rfl⟩: ∃f',g=f'+1:=⟨g-1,JF⟩
 refine⟨l,JF,JF,JF,fun _=>JF,fun c=>(by cases c),f,g,JF,JF,?_⟩;rw [e,wE,if_pos j]
theorem Nb.fin(h:Nb s o i k b)(l:Dd s k=false):tY s (o++ [((s.drop i).take (k-i),i)]) k/\b=true:=by
 obtain⟨y,p,q,z,h1,h2,f,g,r,hf,e⟩:=h;have j:b=true:=by
  cases b
  ·rw [h2 rfl]at l
   cases l
  ·rfl
 have m:wE s g k=k:=by
  cases g
  ·rfl
  ·rw [wE,l];rfl
 rw [m]at e;have:=h1 j;refine⟨⟨q,by rw [AJ,List.length_singleton];omega,f,JF,?_⟩,j⟩;rw [e,CI,EK]
theorem dL.app{v:IV}{g:Heap}{w:Y11}{K:Nat->Nat->Nat->Y14->Heap->Prop}(h:dL o v g)(j:o.length<=100000)
  (hk: ∀e n c g2,dL (o++ [(w,i)]) (.vslice (some 0) e n 2 c) g2->K 0 e n c g2):gH g 2 24 v 1 [.str w,.int .i64 (i:Int)] K:=by
 rcases h with⟨rfl,rfl,rfl⟩| ⟨l,rfl,rfl⟩
 ·exact⟨JG,hk _ _ _ _ (Or.inr ⟨JH,rfl,rfl⟩)⟩
 ·refine⟨⟨rfl,JF,rfl⟩,hk _ _ _ _ (Or.inr ⟨JH,?_,?_⟩)⟩
  ·rw [AJ,List.length_singleton,CG,CU];rfl
  ·rw [AJ,List.length_singleton,CU];rfl
end
end Go.M23
namespace Go.M23
open Go.Pv
def PO(tk:List qM)(i:Nat)(e:Int)(j iv:Y11)(g:Bool):Y14:=[.vslice none 0 tk.length 2 (tk.flatMap vA),.int .i64 (i:Int),.int .i64 e,.int .i64 0,.int .i64 0,.str j,.str iv,.bool g]
def dI(tk:List qM)(i:Nat):qM:=tk.getD i ([],0)
theorem d1V{tk:List qM}{i:Nat}(h:i<tk.length):tk[i]=dI tk i:=by
 unfold dI
 rw [AC,AA h];rfl
theorem b1R: ∀{tk:List qM}{t j:Nat}(h:t<tk.length),j<2->(tk.flatMap vA)[t*2+j]?=(vA tk[t])[j]?
 |s::r,0,j,_,hj=>by
  rw [BD,EG,AX,BJ (show j<2 from hj)];rfl
 |s::r,t+1,j,h,hj=>by
  rw [BD,BA (show 2<=_ by omega),show(vA s).length=2 from rfl,show(t+1)*2+j-2=t*2+j by omega];exact b1R (tk:=r) (Nat.lt_of_succ_lt_succ h) hj
theorem b1Q{tk:List qM}{i j:Nat}(h:i<tk.length)(g:j<2):(tk.flatMap vA)[i*2+j]?=(vA (dI tk i))[j]?:=by
 rw [<-d1V h];exact b1R h g
def kTx:Y11:=[114,117,108,101,32,97,100,100,45,116,117,114,110,58,32,40,97,100,100,32,63,97,32,63,98,41,32,61,62,32,40,97,100,100,32,63,98,32,63,97,41,59,10,114,117,108,101,32,97,100,100,45,122,101,114,111,58,32,40,97,100,100,32,63,97,32,48,41,32,61,62,32,63,97,59,10,114,117,108,101,32,97,100,100,45,114,111,119,58,32,40,97,100,100,32,40,97,100,100,32,63,97,32,63,98,41,32,63,99,41,32,61,62,32,40,97,100,100,32,63,97,32,40,97,100,100,32,63,98,32,63,99,41,41,59,10,114,117,108,101,32,109,117,108,45,116,119,111,58,32,40,109,117,108,32,63,97,32,50,41,32,61,62,32,40,97,100,100,32,63,97,32,63,97,41,59,10,114,117,108,101,32,109,117,108,45,115,104,108,58,32,40,109,117,108,32,63,97,32,52,41,32,61,62,32,40,115,104,108,32,63,97,32,50,41,59,10,114,117,108,101,32,115,117,98,45,115,101,108,102,58,32,40,115,117,98,32,63,97,32,63,97,41,32,61,62,32,48,59,10,114,117,108,101,32,120,111,114,45,115,101,108,102,58,32,40,120,111,114,32,63,97,32,63,97,41,32,61,62,32,48,59,10,114,117,108,101,32,97,110,100,45,115,101,108,102,58,32,40,97,110,100,32,63,97,32,63,97,41,32,61,62,32,63,97,59,10,114,117,108,101,32,110,101,103,45,110,111,116,58,32,40,110,101,103,32,63,97,41,32,61,62,32,40,97,100,100,32,40,110,111,116,32,63,97,41,32,49,41,59,10,114,117,108,101,32,97,100,100,45,115,112,108,105,116,58,32,40,97,100,100,32,63,97,32,63,98,41,32,61,62,32,40,97,100,100,32,40,120,111,114,32,63,97,32,63,98,41,32,40,115,104,108,32,40,97,110,100,32,63,97,32,63,98,41,32,49,41,41,59,10,114,117,108,101,32,101,113,45,115,101,108,102,58,32,40,101,113,32,63,97,32,63,97,41,32,61,62,32,49,59,10,114,117,108,101,32,108,116,45,115,101,108,102,58,32,40,108,116,32,63,97,32,63,97,41,32,61,62,32,48,59,10,114,117,108,101,32,110,101,45,122,101,114,111,58,32,40,110,101,32,63,97,32,48,41,32,61,62,32,49,32,105,102,32,110,111,110,122,101,114,111,32,63,97,59,10,114,117,108,101,32,108,116,45,108,101,97,115,116,58,32,40,108,116,32,63,97,32,48,41,32,61,62,32,48,32,105,102,32,108,101,97,115,116,32,63,97,32,48,59,10,114,117,108,101,32,115,101,108,45,115,97,109,101,58,32,40,115,101,108,32,63,97,32,63,98,32,63,98,41,32,61,62,32,63,98,59,10,114,117,108,101,32,101,113,45,97,112,97,114,116,58,32,40,101,113,32,63,97,32,63,98,41,32,61,62,32,48,32,105,102,32,97,112,97,114,116,32,63,97,32,63,98,59,10,97,120,105,111,109,32,100,105,118,45,111,110,101,59,10,97,120,105,111,109,32,100,105,118,45,115,101,108,102,59,10,97,120,105,111,109,32,114,101,109,45,115,101,108,102,59,10,97,120,105,111,109,32,110,101,101,100,45,116,114,117,101,59,10,97,120,105,111,109,32,110,101,101,100,45,116,119,105,99,101,59,10,97,120,105,111,109,32,108,111,97,100,45,115,116,111,114,101,59,10,97,120,105,111,109,32,108,111,97,100,45,97,112,97,114,116,59,10,97,120,105,111,109,32,108,111,97,100,45,111,116,104,101,114,59,10,97,120,105,111,109,32,108,111,97,100,45,110,101,101,100,59,10,97,120,105,111,109,32,108,111,97,100,45,111,117,116,59,10,97,120,105,111,109,32,115,116,111,114,101,45,108,111,97,100,59,10,97,120,105,111,109,32,114,101,116,45,111,117,116,59,10]
def W0:List qM:=[([114,117,108,101],0),([97,100,100,45,116,117,114,110],5),([58],13),([40],15),([97,100,100],16),([63,97],20),([63,98],23),([41],25),([61,62],27),([40],30),([97,100,100],31),([63,98],35),([63,97],38),([41],40),([59],41),([114,117,108,101],43),([97,100,100,45,122,101,114,111],48),([58],56),([40],58),([97,100,100],59),([63,97],63),([48],66),([41],67),([61,62],69),([63,97],72),([59],74),([114,117,108,101],76),([97,100,100,45,114,111,119],81),([58],88),([40],90),([97,100,100],91),([40],95),([97,100,100],96),([63,97],100),([63,98],103),([41],105),([63,99],107),([41],109),([61,62],111),([40],114),([97,100,100],115),([63,97],119),([40],122),([97,100,100],123),([63,98],127),([63,99],130),([41],132),([41],133),([59],134),([114,117,108,101],136),([109,117,108,45,116,119,111],141),([58],148),([40],150),([109,117,108],151),([63,97],155),([50],158),([41],159),([61,62],161),([40],164),([97,100,100],165),([63,97],169),([63,97],172),([41],174),([59],175),([114,117,108,101],177),([109,117,108,45,115,104,108],182),([58],189),([40],191),([109,117,108],192),([63,97],196),([52],199),([41],200),([61,62],202),([40],205),([115,104,108],206),([63,97],210),([50],213),([41],214),([59],215),([114,117,108,101],217),([115,117,98,45,115,101,108,102],222),([58],230),([40],232),([115,117,98],233),([63,97],237),([63,97],240),([41],242),([61,62],244),([48],247),([59],248),([114,117,108,101],250),([120,111,114,45,115,101,108,102],255),([58],263),([40],265),([120,111,114],266),([63,97],270),([63,97],273),([41],275),([61,62],277),([48],280),([59],281),([114,117,108,101],283),([97,110,100,45,115,101,108,102],288),([58],296),([40],298),([97,110,100],299),([63,97],303),([63,97],306),([41],308),([61,62],310),([63,97],313),([59],315),([114,117,108,101],317),([110,101,103,45,110,111,116],322),([58],329),([40],331),([110,101,103],332),([63,97],336),([41],338),([61,62],340),([40],343),([97,100,100],344),([40],348),([110,111,116],349),([63,97],353),([41],355),([49],357),([41],358),([59],359),([114,117,108,101],361),([97,100,100,45,115,112,108,105,116],366),([58],375),([40],377),([97,100,100],378),([63,97],382),([63,98],385),([41],387),([61,62],389),([40],392),([97,100,100],393),([40],397),([120,111,114],398),([63,97],402),([63,98],405),([41],407),([40],409),([115,104,108],410),([40],414),([97,110,100],415),([63,97],419),([63,98],422),([41],424),([49],426),([41],427),([41],428),([59],429),([114,117,108,101],431),([101,113,45,115,101,108,102],436),([58],443),([40],445),([101,113],446),([63,97],449),([63,97],452),([41],454),([61,62],456),([49],459),([59],460),([114,117,108,101],462),([108,116,45,115,101,108,102],467),([58],474),([40],476),([108,116],477),([63,97],480),([63,97],483),([41],485),([61,62],487),([48],490),([59],491),([114,117,108,101],493),([110,101,45,122,101,114,111],498),([58],505),([40],507),([110,101],508),([63,97],511),([48],514),([41],515),([61,62],517),([49],520),([105,102],522),([110,111,110,122,101,114,111],525),([63,97],533),([59],535),([114,117,108,101],537),([108,116,45,108,101,97,115,116],542),([58],550),([40],552),([108,116],553),([63,97],556),([48],559),([41],560),([61,62],562),([48],565),([105,102],567),([108,101,97,115,116],570),([63,97],576),([48],579),([59],580),([114,117,108,101],582),([115,101,108,45,115,97,109,101],587),([58],595),([40],597),([115,101,108],598),([63,97],602),([63,98],605),([63,98],608),([41],610),([61,62],612),([63,98],615),([59],617),([114,117,108,101],619),([101,113,45,97,112,97,114,116],624),([58],632),([40],634),([101,113],635),([63,97],638),([63,98],641),([41],643),([61,62],645),([48],648),([105,102],650),([97,112,97,114,116],653),([63,97],659),([63,98],662),([59],664),([97,120,105,111,109],666),([100,105,118,45,111,110,101],672),([59],679),([97,120,105,111,109],681),([100,105,118,45,115,101,108,102],687),([59],695),([97,120,105,111,109],697),([114,101,109,45,115,101,108,102],703),([59],711),([97,120,105,111,109],713),([110,101,101,100,45,116,114,117,101],719),([59],728),([97,120,105,111,109],730),([110,101,101,100,45,116,119,105,99,101],736),([59],746),([97,120,105,111,109],748),([108,111,97,100,45,115,116,111,114,101],754),([59],764),([97,120,105,111,109],766),([108,111,97,100,45,97,112,97,114,116],772),([59],782),([97,120,105,111,109],784),([108,111,97,100,45,111,116,104,101,114],790),([59],800),([97,120,105,111,109],802),([108,111,97,100,45,110,101,101,100],808),([59],817),([97,120,105,111,109],819),([108,111,97,100,45,111,117,116],825),([59],833),([97,120,105,111,109],835),([115,116,111,114,101,45,108,111,97,100],841),([59],851),([97,120,105,111,109],853),([114,101,116,45,111,117,116],859),([59],866)]
theorem Vi:kTx.length=868:=by kernel_rfl
theorem c9E:lJ kTx 869 0=(W0,-1):=by kernel_rfl
end Go.M23
end
section
namespace Go.M23
open Go.Pv Go.M15
def alt{α:Type} :Nat->List α->List α
 |n+1,x::r=>x::alt n r.tail
 |_,_=>[]
def bld:Nat->List IObj->PT IObj
 |n+1,x::r=> .node (bld n (alt 40 r)) (some x) (bld n (alt 40 r.tail))
 |_,_=> .nil
def hX(x:IObj)(g:List Nat):Heap:=Heap.mk (bld 7 (x::g.map .tip)) (g.length+1)
def hL(i:Nat)(j:Y11)(g:List Nat):Heap:=hX (.cells (PO W0 i 868 j [] false)) g
def st:Nat->Nat
 |0=>0
 |1=>15
 |2=>26
 |3=>49
 |4=>64
 |5=>79
 |6=>90
 |7=>101
 |8=>112
 |9=>129
 |10=>156
 |11=>167
 |12=>178
 |13=>192
 |14=>207
 |15=>219
 |16=>234
 |17=>237
 |18=>240
 |19=>243
 |20=>246
 |21=>249
 |22=>252
 |23=>255
 |24=>258
 |25=>261
 |26=>264
 |27=>267
 |28=>270
 |_=>0
def Kb:Nat->Y11
 |0=>[]
 |1=>[97,98]
 |2=>[97]
 |3=>[97,98,99]
 |4=>[97]
 |5=>[97]
 |6=>[97]
 |7=>[97]
 |8=>[97]
 |9=>[97]
 |10=>[97,98]
 |11=>[97]
 |12=>[97]
 |13=>[97]
 |14=>[97]
 |15=>[97,98]
 |16=>[97,98]
 |_=>[97,98]
def tpK:Nat->List Nat
 |0=>[]
 |1=>[10,10,14]
 |2=>[10,10,28,10]
 |3=>[10,10,42,10,10,10,10,10]
 |4=>[10,10,56,10,10,10,10,10,10,10]
 |5=>[10,10,70,10,10,10,10,10,10,10,10,10]
 |6=>[10,10,84,10,10,10,10,10,10,10,10,10,10]
 |7=>[10,10,98,10,10,10,10,10,10,10,10,10,10,10]
 |8=>[10,10,112,10,10,10,10,10,10,10,10,10,10,10,10]
 |9=>[10,10,126,10,10,10,10,10,10,10,10,10,10,10,10,5,5,10]
 |10=>[10,10,140,10,10,10,10,10,10,10,10,10,10,10,10,5,5,10,10,10,10,10,10]
 |11=>[10,10,154,10,10,10,10,10,10,10,10,10,10,10,10,5,5,10,10,10,10,10,10,10]
 |12=>[10,10,168,10,10,10,10,10,10,10,10,10,10,10,10,5,5,10,10,10,10,10,10,10,10]
 |13=>[10,10,182,10,10,10,10,10,10,10,10,10,10,10,10,5,5,10,10,10,10,10,10,10,10,10,4]
 |14=>[10,10,196,10,10,10,10,10,10,10,10,10,10,10,10,5,5,10,10,10,10,10,10,10,10,10,4,10,4]
 |15=>[10,10,210,10,10,10,10,10,10,10,10,10,10,10,10,5,5,10,10,10,10,10,10,10,10,10,4,10,4,15]
 |16=>[10,10,224,10,10,10,10,10,10,10,10,10,10,10,10,5,5,10,10,10,10,10,10,10,10,10,4,10,4,15,10,4]
 |_=>[]
def tqK:Nat->List Nat
 |0=>[10,10]
 |1=>[10,10,14,10]
 |2=>[10,10,28,10,10,10,10,10]
 |3=>[10,10,42,10,10,10,10,10,10,10]
 |4=>[10,10,56,10,10,10,10,10,10,10,10,10]
 |5=>[10,10,70,10,10,10,10,10,10,10,10,10,10]
 |6=>[10,10,84,10,10,10,10,10,10,10,10,10,10,10]
 |7=>[10,10,98,10,10,10,10,10,10,10,10,10,10,10,10]
 |8=>[10,10,112,10,10,10,10,10,10,10,10,10,10,10,10,5,5,10]
 |9=>[10,10,126,10,10,10,10,10,10,10,10,10,10,10,10,5,5,10,10,10,10,10,10]
 |10=>[10,10,140,10,10,10,10,10,10,10,10,10,10,10,10,5,5,10,10,10,10,10,10,10]
 |11=>[10,10,154,10,10,10,10,10,10,10,10,10,10,10,10,5,5,10,10,10,10,10,10,10,10]
 |12=>[10,10,168,10,10,10,10,10,10,10,10,10,10,10,10,5,5,10,10,10,10,10,10,10,10,10,4]
 |13=>[10,10,182,10,10,10,10,10,10,10,10,10,10,10,10,5,5,10,10,10,10,10,10,10,10,10,4,10,4]
 |14=>[10,10,196,10,10,10,10,10,10,10,10,10,10,10,10,5,5,10,10,10,10,10,10,10,10,10,4,10,4,15]
 |15=>[10,10,210,10,10,10,10,10,10,10,10,10,10,10,10,5,5,10,10,10,10,10,10,10,10,10,4,10,4,15,10,4]
 |_=>[]
def hH(k:Nat):Heap:=hL (st k) (Kb k) (tpK k)
def hB(k:Nat):Heap:=hL (st k+1) (Kb k) (tpK k)
def hC(k:Nat):Heap:=hL (st (k+1)) (Kb (k+1)) (tqK k)
theorem a6J(x:IObj)(l:List Nat):(hX x l).get 0=x:=rfl
theorem c8B(x y:IObj)(l:List Nat):(hX x l).set 0 y=hX y l:=rfl
theorem b1T: ∀k,1<=k->k<16->tqK k=10::10::14*k::(tqK k).drop 3/\tpK (k+1)=10::10::14*(k+1)::(tqK k).drop 3
 |0,h,_=>absurd h JF
 |1,_,_=>⟨rfl,rfl⟩
 |2,_,_=>⟨rfl,rfl⟩
 |3,_,_=>⟨rfl,rfl⟩
 |4,_,_=>⟨rfl,rfl⟩
 |5,_,_=>⟨rfl,rfl⟩
 |6,_,_=>⟨rfl,rfl⟩
 |7,_,_=>⟨rfl,rfl⟩
 |8,_,_=>⟨rfl,rfl⟩
 |9,_,_=>⟨rfl,rfl⟩
 |10,_,_=>⟨rfl,rfl⟩
 |11,_,_=>⟨rfl,rfl⟩
 |12,_,_=>⟨rfl,rfl⟩
 |13,_,_=>⟨rfl,rfl⟩
 |14,_,_=>⟨rfl,rfl⟩
 |15,_,_=>⟨rfl,rfl⟩
 |_+16,_,h=>absurd h JF
theorem b8Q(x:IObj)(a b c:Nat)(r:List Nat):(hX x (a::b::c::r)).get 3= .tip c:=by kernel_rfl
theorem b8R(x:IObj)(a b c d:Nat)(r:List Nat):(hX x (a::b::c::r)).set 3 (.tip d)=hX x (a::b::d::r):=by kernel_rfl
theorem b8S(x:IObj):(hX x (tqK 0)).push (.tip 14)=hX x (tpK 1)/\(hX x (tqK 0)).next=3:=⟨by kernel_rfl,by kernel_rfl⟩
theorem c7Z(k:Nat):(hH k).get 0= .cells (PO W0 (st k) 868 (Kb k) [] false):=a6J _ _
theorem c8A(k:Nat):(hH k).set 0 (.cells (PO W0 (st k+1) 868 (Kb k) [] false))=hB k:=c8B _ _ _
theorem a6I(k:Nat):(hC k).get 0= .cells (PO W0 (st (k+1)) 868 (Kb (k+1)) [] false):=a6J _ _
theorem c7Y{k:Nat}(h:1<=k)(h2:k<16):(hC k).get 3= .tip (14*k):=by
 unfold hC hL
 rw [(b1T k h h2).1];exact b8Q _ _ _ _ _
theorem c7X{k:Nat}(h:1<=k)(h2:k<16):(hC k).set 3 (.tip (14*(k+1)))=hH (k+1):=by
 unfold hC hH hL
 rw [(b1T k h h2).1,(b1T k h h2).2];exact b8R _ _ _ _ _ _
theorem I3:(hC 0).push (.tip 14)=hH 1/\(hC 0).next=3:=b8S _
structure RF where
 nm:Y11
 a1:Int
 a2:Int
 a3:Int
 a4:Int
 n1:Nat
 x1:Y14
 b1:Int
 b2:Int
 b3:Int
 b4:Int
 n2:Nat
 x2:Y14
 n3:Nat
 x3:Y14
 nv:Int
 ni:Int
def RF.c(f:RF):Y14:=[.str f.nm,.int .i64 f.a1,.int .i64 f.a2,.int .i64 f.a3,.int .i64 f.a4,.vslice none 0 f.n1 5 f.x1,.int .i64 f.b1,.int .i64 f.b2,.int .i64 f.b3,.int .i64 f.b4,.vslice none 0 f.n2 5 f.x2,.vslice none 0 f.n3 4 f.x3,.int .i64 f.nv,.int .i64 f.ni]
def kR(k:Nat):Ru:=cC.getD k r0
structure RuC(k:Nat)(f:RF):Prop where
 e:f.c=bS (kR k)
def R8:Ru->RF
 | ⟨nm,.mk a1 a2 a3 a4 k1,.mk b1 b2 b3 b4 k2,nv,ni,cs⟩=>⟨nm,a1,a2,a3,a4,k1.length,cQ k1,b1,b2,b3,b4,k2.length,cQ k2,cs.length,cs.flatMap vS,nv,ni⟩
theorem b0O: ∀r:Ru,(R8 r).c=bS r
 | ⟨nm,.mk a1 a2 a3 a4 k1,.mk b1 b2 b3 b4 k2,nv,ni,cs⟩=>rfl
theorem d8K(k:Nat):RuC k (R8 (kR k)):=⟨b0O _⟩
theorem RuC.nm{k:Nat}{f:RF}(h:RuC k f):f.nm=(kR k).nm:=by
 have:=h.e;unfold RF.c bS at this
 injection this with a b
 injection a
abbrev KF(k:Nat):Prop:=(((dI W0 (st k)).1==[97,120,105,111,109])=decide (16<=k)/\(k<16->((dI W0 (st k)).1==[114,117,108,101])=true)/\st k+1<270/\(kR k).nm.length≠1)/\
 (16<=k->(dI W0 (st k+1)).1=(kR k).nm/\(dI W0 (st k+2)).1=[59]/\st k+2<270/\st (k+1)=st k+3/\Kb (k+1)=Kb k)/\∀j,j<k->((kR j).nm==(kR k).nm)=false
theorem kf{k:Nat}(h:k<28):KF k:=of_decide_eq_true (p:= ∀k,k<28->KF k) (by kernel_rfl) k h
theorem Et:W0.length=270:=by kernel_rfl
theorem c9F:W0≠[]:=fun e=>by
 have:=Et;rw [e]at this
 cases this
theorem c1R{k:Nat}(h:k<28):cC.take (k+1)=cC.take k++ [kR k]:=by
 have g:k<cC.length:=h;rw [List.take_add_one,AA g];unfold kR
 rw [AC,AA g];rfl
theorem Xu{k j:Nat}(h:j<k)(m:k<=28):((cC.take k).flatMap bS)[j*14+0]?=some (.str (kR j).nm):=by
 have l:j<cC.length:=by
  show j<28;omega
 have g:j< (cC.take k).length:=by
  rw [AR];show j<min k 28;omega
 rw [Cs g JG,EZ];unfold kR
 rw [AC,AA l];rfl
structure PaV(k:Nat)(v:IV)(g:Heap):Prop where
 e:(k=0/\v= .nilslice) \/ (1<=k/\v= .vslice (some 3) (14*k) k 14 ((cC.take k).flatMap bS)/\g.get 3= .tip (14*k))
structure PaI(k:Nat)(v:IV)(g:Heap):Prop where
 le:k<=28
 hh:k<16->g=hH k
 g0:g.get 0= .cells (PO W0 (st k) 868 (Kb k) [] false)
 vv:PaV k v g
structure PaJ(k:Nat)(v:IV)(g:Heap):Prop where
 lt:k<28
 hh:k<16->g=hC k
 g0:g.get 0= .cells (PO W0 (st (k+1)) 868 (Kb (k+1)) [] false)
 vv:PaV k v g
theorem PaJ.tip{k:Nat}{v:IV}{g:Heap}(h:PaJ k v g)(j:1<=k):g.get 3= .tip (14*k):=by
 rcases h.vv.e with⟨c,_⟩| ⟨_,_,e⟩
 ·omega
 ·exact e
theorem PaI.axm{k:Nat}{v:IV}{g:Heap}{c1 c2 j:IObj}(m:PaI k v g)(p:k<28)(h:16<=k)(e:j= .cells (PO W0 (st (k+1)) 868 (Kb (k+1)) [] false)):v= .vslice (some 3) (14*k) k 14 ((cC.take k).flatMap bS)/\PaJ k (.vslice (some 3) (14*k) k 14 ((cC.take k).flatMap bS)) (((g.set 0 c1).set 0 c2).set 0 j):=by
 rcases m.vv.e with⟨c,_⟩| ⟨q,ev,l⟩
 ·omega
 ·refine⟨ev,p,fun h=>absurd h JF,by rw [aK,e],⟨.inr ⟨q,rfl,?_⟩⟩⟩;rw [aH JG,aH JG,aH JG];exact l
theorem PaJ.app0{v:IV}{g:Heap}{f:RF}(h:PaJ 0 v g)(hf:RuC 0 f):PaI 1 (.vslice (some g.next) (1*14) 1 14 f.c) (g.push (.tip (1*14))):=by
 have j:=h.hh JG;refine⟨JG,fun _=>?_,?_,⟨.inr ⟨JG,?_,?_⟩⟩⟩
 ·rw [j];exact I3.1
 ·rw [aQ (by rw [j,I3.2];decide)];exact h.g0
 ·rw [hf.e,j,I3.2];simp [cC,kR]
 ·rw [show 3=g.next by rw [j,I3.2]];exact aT
theorem PaJ.app{k:Nat}{v:IV}{g:Heap}{f:RF}(h:PaJ k v g)(p:1<=k)(hf:RuC k f):PaI (k+1) (.vslice (some 3) (14*k+1*14) (k+1) 14 ((cC.take k).flatMap bS++f.c)) (g.set 3 (.tip (14*k+1*14))):=by
 have j:14*k+1*14=14*(k+1):=JF;have l:=h.lt;rw [j];refine⟨JF,fun m=>?_,?_,⟨.inr ⟨JF,?_,aK⟩⟩⟩
 ·rw [h.hh JF];exact c7X p JF
 ·rw [aH JG];exact h.g0
 ·rw [c1R l,CG,hf.e,List.flatMap_singleton]
structure HBC(k:Nat)(h g:Heap):Prop where
 b:h=hB k
 c:g=hC k
structure PaL(L:List Ru)(k:Nat):Prop where
 e:L=cC.take k
structure PaE(L:List Ru)(g:Heap):Prop where
 e:L=cC
 g0:g.get 0= .cells (PO W0 270 868 (Kb 28) [] false)
structure SrI(k:Nat)(o:List Ru)(v:IV)(g:Heap)(L:List Ru):Prop where
 le:k<=28
 ol:o.length<=k
 ok: ∀r∈o,r∈cC
 e:L=cC
 vv:(o=[]/\v= .nilslice/\g=Heap.mk PT.nil 0) \/ (o≠[]/\v= .vslice (some 0) (14*o.length) o.length 14 (o.flatMap bS)/\g=(Heap.mk PT.nil 0).push (.tip (14*o.length)))
structure SrE(o:List Ru):Prop where
 ol:o.length<=28
 ok: ∀r∈o,r∈cC
structure PaX where
 k:Nat
 j:Nat
 v:IV
 g:Heap
 f:RF
 L:List Ru
 b:Bool
end Go.M23
end
section
namespace Go.M23
open Go.Pv Go.M13 Go.M15 Go.M10 Go.M14
structure RsN(x:Y15):Prop where
 ok: ∀n∈x,lV n/\n.ks.length<=40
 ln:1<=x.length/\x.length<=1000
structure RsO(x:Y15)(ss:List Ste):Prop where
 n:RsN x
 ok: ∀s∈ss,s.ok
 ln:ss.length<=1000
structure SlV(sz:Nat)(v:IV)(c:Y14)(n t:Nat)(g:Heap):Prop where
 e:(n=0/\c=[]/\v= .nilslice) \/ (1<=n/\v= .vslice (some t) (sz*n) n sz c/\g.get t= .tip (sz*n)/\t<g.next)
structure RsX where
 x:Y15
 i:Nat
 k:Nat
 ss:List Ste
 v:IV
 t:Nat
 g:Heap
 id:Nat
 n:Int
 a:Int
 b:Int
 y:Int
 vs:Y12
 w:IV
 u:Nat
structure RsI(x:Y15)(i:Nat)(ss:List Ste)(v:IV)(t:Nat)(g:Heap):Prop where
 o:RsO x ss
 l:ss.length=i
 i:i<=16
 s:SlV 5 v (ss.flatMap iT) ss.length t g
structure RsJ(x:RsX)(s:Y12):Prop where
 o:RsO x.x x.ss
 l:x.ss.length=x.i
 i:x.i<16/\x.i<s.length
 k:x.k<=2/\x.vs.length+x.k<=2
 s:SlV 5 x.v (x.ss.flatMap iT) x.ss.length x.t x.g
 v:SlV 1 x.w (x.vs.map (IV.int .i64)) x.vs.length x.u x.g
 q: ∀z∈x.vs,aU z
 b:aU x.a/\aU x.b/\aU x.y
 g:x.g.get x.id= .cells [.int .i64 x.n]/\x.id<x.g.next/\aU x.n
 d:(1<=x.ss.length->x.t≠x.id)/\(1<=x.vs.length->x.u≠x.id)/\(1<=x.ss.length->1<=x.vs.length->x.t≠x.u)
structure RsZ(x:RsX):Prop where
 k:x.k=0
 v:x.vs=[]
 w:x.w= .nilslice
structure HPt(g g2:Heap)(t:Nat):Prop where
 nx:g.next<=g2.next
 ge: ∀j,j<g.next->j≠t->g2.get j=g.get j
theorem SlV.app{sz l n t:Nat}{v:IV}{c xs:Y14}{g:Heap}{K:Nat->Nat->Nat->Y14->Heap->Prop}(h:SlV sz v c n t g)(r:(n+1)*l<=140737488355328)
  (hk: ∀t' g2,(t'=t/\1<=n\/t'=g.next)->HPt g g2 t'->SlV sz (.vslice (some t') (sz*(n+1)) (n+1) sz (c++xs)) (c++xs) (n+1) t' g2->K t' (sz*(n+1)) (n+1) (c++xs) g2):gH g sz l v 1 xs K:=by
 rcases h.e with⟨p,y,q⟩| ⟨p,q,A,z⟩
 ·subst p y q;have:=hk g.next (g.push (.tip (sz*(0+1)))) (.inr rfl) ⟨EE _,fun j m _=>aQ m⟩ ⟨.inr ⟨AG _,rfl,aT,AV _⟩⟩;have e:1*sz=sz*(0+1):=JF;refine⟨JF,?_⟩;rw [e];exact this
 ·subst q;have:=hk t (g.set t (.tip (sz*(n+1)))) (.inl ⟨rfl,p⟩) ⟨AG _,fun j _ m=>aH m⟩ ⟨.inr ⟨JF,rfl,aK,z⟩⟩;have e:sz*n+1*sz=sz*(n+1):=by rw [Nat.mul_add];omega
  refine⟨⟨rfl,r,A⟩,?_⟩;rw [e];exact this
theorem SlV.mono{sz n t:Nat}{v:IV}{c:Y14}{g j:Heap}(h:SlV sz v c n t g)(m:g.next<=j.next)(l:1<=n->t<g.next->j.get t=g.get t):SlV sz v c n t j:=by
 rcases h.e with a| ⟨a,b,c,d⟩
 ·exact⟨.inl a⟩
 ·exact⟨.inr ⟨a,b,by rw [l a d,c],JF⟩⟩
structure Bx(g g':Heap)(n:Int):Prop where
 nx:g'.next=g.next+1
 ge:g'.get g.next= .cells [.int .i64 n]
 lt: ∀j,j<g.next->g'.get j=g.get j
theorem Bx.push{g:Heap}{n:Int} :Bx g (g.push (.cells [.int .i64 n])) n:=⟨rfl,aT,fun j l=>aQ l⟩
theorem Bx.set{g l:Heap}{n m:Int}(h:Bx g l n):Bx g (l.set g.next (.cells [.int .i64 m])) m:=⟨h.nx,aK,fun j p=>by rw [aH JF];exact h.lt j p⟩
theorem RsI.box{x:Y15}{i:Nat}{ss:List Ste}{v:IV}{t:Nat}{g m:Heap}{n a b y:Int}{s:Y12}(h:RsI x i ss v t g)(p:i<16/\i<s.length)(j:Bx g m n)(r:aU n)(h3:aU a/\aU b/\aU y):
  RsJ ⟨x,i,0,ss,v,t,m,g.next,n,a,b,y,[],.nilslice,0⟩ s/\RsZ ⟨x,i,0,ss,v,t,m,g.next,n,a,b,y,[],.nilslice,0⟩:=by
 refine⟨⟨h.o,h.l,p,⟨BE _,BE _⟩,h.s.mono (by rw [j.nx];omega) fun _ q=>j.lt _ q,⟨.inl ⟨rfl,rfl,rfl⟩⟩,fun z A=>(by cases A),h3,⟨j.ge,by rw [j.nx];exact AV _,r⟩,fun q=>?_,fun q=>?_,fun _ q=>?_⟩,rfl,rfl,rfl⟩
 ·rcases h.s.e with⟨c,_⟩| ⟨_,_,_,d⟩
  ·dsimp only at q;omega
  ·exact EQ d
 ·cases q
 ·cases q
theorem RsJ.next{x:RsX}{s:Y12}(h:RsJ x s)(j:aU y):RsJ {x with g:=x.g.set x.id (.cells [.int .i64 y]),n:=y } s:=
 ⟨h.o,h.l,h.i,h.k,h.s.mono (AG _) fun q _=>aH (h.d.1 q),h.v.mono (AG _) fun q _=>aH (h.d.2.1 q),h.q,h.b,⟨aK,h.g.2.1,j⟩,h.d⟩
theorem RsJ.ks{x:RsX}{s:Y12}{k:Nat}(h:RsJ x s)(z:RsZ x)(j:k<=2):RsJ {x with k:=k } s:=
 ⟨h.o,h.l,h.i,⟨j,by show x.vs.length+k<=2;rw [z.v];simpa using j⟩,h.s,h.v,h.q,h.b,h.g,h.d⟩
theorem RsJ.app{x:RsX}{s:Y12}{z:Int}{t:Nat}{A:Heap}{w:IV}(h:RsJ x s)(R:1<=x.k)(L:aU z)(G:t=x.u/\1<=x.vs.length\/t=x.g.next)(r:HPt x.g A t)
  (hs:SlV 1 w (x.vs.map (IV.int .i64)++ [.int .i64 z]) (x.vs.length+1) t A):RsJ {x with k:=x.k-1,vs:=x.vs++ [z],w:=w,u:=t,g:=A } s:=by
 have j:x.id≠t:=by
  rcases G with⟨e,q⟩|e
  ·rw [e];exact(h.d.2.1 q).symm
  ·have:=h.g.2.1;omega
 have D:1<=x.ss.length->x.t<x.g.next:=fun q=>by
  rcases h.s.e with⟨c,_⟩| ⟨_,_,_,d⟩
  ·omega
  ·exact d
 have m:1<=x.ss.length->x.t≠t:=fun q=>by
  rcases G with⟨e,O⟩|e
  ·rw [e];exact h.d.2.2 q O
  ·have:=D q;omega
 have K:=h.k;refine⟨h.o,h.l,h.i,⟨JK,by dsimp only;rw [AJ,List.length_singleton];omega⟩,h.s.mono r.nx fun q d=>r.ge _ d (m q),by dsimp only;rw [CB,AJ];exact hs,fun y p=>?_,h.b,⟨(r.ge _ h.g.2.1 j).trans h.g.1,BS h.g.2.1 r.nx,h.g.2.2⟩,h.d.1,fun _=>j.symm,fun q _=>m q⟩;rcases BU.1 p with p|p
 ·exact h.q y p
 ·rw [BN.1 p];exact L
theorem RsJ.fin{x:RsX}{s:Y12}{t:Nat}{v:IV}(h:RsJ x s)
  (hs:SlV 5 v (x.ss.flatMap iT++iT ⟨x.a,x.b,x.y,x.vs,[]⟩) (x.ss.length+1) t g):RsI x.x (x.i+1) (x.ss++ [⟨x.a,x.b,x.y,x.vs,[]⟩]) v t g:=by
 have r:=h.k;have A:=h.l;have p:=h.i;refine⟨⟨h.o.n,fun q j=>?_,by rw [AJ,List.length_singleton];omega⟩,by rw [AJ,List.length_singleton];omega,JF,by rw [CG,List.flatMap_singleton,AJ];exact hs⟩;rcases BU.1 j with j|j
 ·exact h.o.ok q j
 ·rw [BN.1 j];exact⟨h.b,h.q,fun z m=>(by cases m),by show x.vs.length<=1000;omega,BE _⟩
theorem e5X{k:Int}(h0:0<=k)(g:k<5): ∃y:Int,([.int .i64 0,.int .i64 1,.int .i64 (-1),.int .i64 2,.int .i64 1]:Y14)[k.toNat*1]?=some (.int .i64 y)/\aU y:=by
 rcases(by omega:k=0\/k=1\/k=2\/k=3\/k=4)with rfl|rfl|rfl|rfl|rfl
 ·exact⟨0,rfl,JG⟩
 ·exact⟨1,rfl,JG⟩
 ·exact⟨-1,rfl,JG⟩
 ·exact⟨2,rfl,JG⟩
 ·exact⟨1,rfl,JG⟩
structure LsX where
 x:Y15
 ss:List Ste
 v:Int
 w:Int
 rl:List Ru
 a:Int
 b:Int
 i:Nat
 j:Nat
structure LsO(x:LsX):Prop where
 o:RsO x.x x.ss
 k: ∀r∈x.rl,r∈cC
 kl:x.rl.length<=28
 ab:aU x.a/\aU x.b
 i:x.i<=x.x.length
end Go.M23
end
end
