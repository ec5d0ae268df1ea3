/-
  Texts of this proof, one after the other.
  Conditions: none.
-/
import Derived.Test.YthimicfahhgpcaaGreatW11
set_option linter.unusedVariables false
set_option linter.unusedSimpArgs false
set_option maxRecDepth 100000
set_option maxHeartbeats 4000000
noncomputable section
variable{i j k m n b q:Nat}{x y z u w:Int}{h g:Go.Pv.Heap}{d l:List Go.Pv.IV}{A B C:List Go.M15.Nd}{K L:Y12}{p s t:Go.Pv.IV}{F:List Go.M10.E}{D:Go.Pv.Meta}{V W:List Go.Value}{U:Go.TypeId}{o:Bool}{X Y:Go.Value}{r e:Y11}{O:Go.Oper}{N:Y10}{H:Array Go.Value}
section
namespace Go.Proofs.YthimicfahhgpcaaGreat
open Go.Pv Go.M13 Go.M15 Go.M10 Go.M14
def a7B(xs:Y14)(h:Heap)(K:KT):Prop:=match xs with
 | [.agg [.int .i64 op,.int .i64 im,.vslice none e n 1 c],.int .i64 q]=> ∃(ks:Y12)(j:Nat),(n=ks.length/\c=ks.map (IV.int .i64)/\q=(j:Int))/\(ks.length%2=1/\3<=ks.length/\ks.length<=40/\j<ks.length/2/\0<=im/\im<=15)/\K (eV (bI ⟨op,im,ks⟩ j)) h
 |_=>False
def Yo(ks:Y12)(j:Nat):=wW (((ks.length:Int)-1)/ (2:Int)+1)+(j:Int)
def Ly(ks:Y12):=List.map (IV.int .i64) ks
theorem d9D(op im:Int)(e:Nat)(ks:Y12)(j:Nat)(h:Heap)(Q:KT):dF (aR c6Y) env 199 cS bK bK [.agg [.int .i64 op,.int .i64 im,.vslice none e ks.length 1 (ks.map (IV.int .i64))],.int .i64 (j:Int)] h Q=(
 aC (aP [IV.agg [.int .i64 op,iI im,IV.vslice none 0 ks.length 1 (Ly ks)],iI (j:Int)]) ((1<=(ks.length:Int)/\(ks.length:Int)<=1000000)/\aC (decide (0<=(j:Int)) &&decide ((j:Int)< (ks.length:Int))) (aG .i64 (Ly ks) ((j:Int).toNat*1) fun g=>aC (decide (0<=wW (Yo ks j)) &&decide (wW (Yo ks j)< (ks.length:Int))) (aG .i64 (Ly ks) ((wW (Yo ks j)).toNat*1) fun l=>aC (decide ((0:Int)<=((ks.length:Int)-1)/ (2:Int)) &&decide (((ks.length:Int)-1)/ (2:Int)< (ks.length:Int))) (aG .i64 (Ly ks) (((((ks.length):Int)-1)/ (2:Int)).toNat*1) fun m=>Q (.agg [.int .i64 (wW (wW ((16:Int)*im)+(j:Int))),iI g,iI l,iI m]) h))))):=by kernel_rfl
theorem d7K: ∀xs h Q,a7B xs h Q->aL env 199 xs h Q:=by
 intro xs h Q g;unfold a7B at g;split at g
 ·rename_i op im e n c q;obtain⟨ks,j,⟨rfl,rfl,rfl⟩,z,g⟩:=g;refine aN (c4Z) (d9D op im e ks j h Q) ?_;delta Yo Ly wW iI;have y: ∀x:Nat,(x:Int).toNat=x:=AK
  obtain⟨h1,h2,h3,h4,L,O⟩:=z;have A:IntKind.i64.wrap (16*im)=16*im:=AF _ JF;have D:IntKind.i64.wrap (16*im+(j:Int))=16*im+(j:Int):=AF _ JF;have m:((ks.length:Int)-1)/2=((ks.length/2:Nat):Int):=JF;have G:IntKind.i64.wrap (((ks.length/2:Nat):Int)+1)=((ks.length/2+1:Nat):Int):=by rw [AF _ JF];omega
  have K:IntKind.i64.wrap (((ks.length/2+1:Nat):Int)+(j:Int))=((ks.length/2+1+j:Nat):Int):=by rw [AF _ JF];omega
  rw [A,D,m,G,K];have l:j<ks.length:=JF;have p:ks.length/2+1+j<ks.length:=JF;have r:ks.length/2<ks.length:=JF;refine aA (by simp only [aP,bG,bC,AL]) ⟨JF,aW ⟨JF,JF⟩ (cX l (by rw [y,AO]) (aW ⟨JF,JF⟩ (cX p (by rw [y,AO]) (aW ⟨JF,JF⟩ (cX r (by rw [y,AO]) (cD g ?_))))))⟩;have e:(ks.length-1)/2=ks.length/2:=JF;simp only [eV,bI,e];rw [bH l,bH p,bH r]
 ·exact g.elim
def a4J:=aV 199 a7B c6Y
theorem a9E:aO env a4J:=aF d7K (c4Z)
def a3F(id:Nat)(h g:Heap)(C:List (Int×Iv))(m l:Nat):Prop:=(∃a b c d:IV,h.get id= .cells [a,b,c,d]/\g.get id= .cells [a,b,.map m,d])/\(∃es:List (Int×Iv),g.get m= .map (cM eI es)/\∀k,zK k es=vZ C k)/\(∃es:List (Int×Bool),g.get l= .map (cM IV.bool es)/\∀k,zK k es=if sE C k=true then some true else none)/\(h.next<=m/\h.next<=l/\m≠l/\m<g.next/\l<g.next)/\∀j,j<h.next->j≠id->g.get j=h.get j
def Ko(id:Nat)(C:List (Int×Iv))(g:Nat)(h:Heap):Inv':=eA (Nat×Heap×Nat×Nat) (fun x=>[(0,.v (.ptr id 0)),(4,.v (.map x.2.2.2)),(12,.v (.vslice none g C.length 3 (C.flatMap Hj))),(13,.v (.int .i64 (C.length:Int))),(14,.v (.int .i64 (x.1:Int)))]) (fun _=>[]) (fun x=>x.2.1) (fun x=>x.1<=C.length/\a3F id h x.2.1 (C.take x.1) x.2.2.1 x.2.2.2) (fun x=>C.length-x.1)
def a7R(xs:Y14)(h:Heap)(K:KT):Prop:=match xs with
 | [.ptr id 0,.vslice none e1 n1 3 c1]=> ∃(C:List (Int×Iv))(a b c d:IV),(n1=C.length/\c1=C.flatMap Hj)/\(h.get id= .cells [a,b,c,d]/\id<h.next/\C.length<=1152921504606846976)/\∀(h2:Heap)(m:Nat)(g:List (Int×Iv)),h2.get id= .cells [a,b,.map m,d]->(h2.get m= .map (cM eI g)/\∀k,zK k g=vZ C k)->(h.next<=m/\m<h2.next)->(∀j,j<h.next->j≠id->h2.get j=h.get j)->K (.tuple []) h2
 |_=>False
def tP(x:Nat×Heap×Nat×Nat):=x.2.2
def mK(x:Nat×Heap×Nat×Nat):=(tP x).2
def gN(x:Nat×Heap×Nat×Nat):=x.2.1
def Lp(C:IvC)(g:Nat):=TV.v (.vslice none g C.length 3 (List.flatMap Hj C))
def yN:=TypeDesc.int .i64
def Lq(C:IvC):=TV.v (.int .i64 (C.length:Int))
def tO(g:Nat×Heap×Nat×Nat):=g.2.2
def yO(g:Int):=iI g
def C6(C:IvC)(m id:Nat)(h:Heap)(x:Nat×Heap×Nat×Nat)(p:Heap):Prop:= ∃(g:Nat×Heap×Nat×Nat),some (TV.v (.ptr id 0))=some (TV.v (.ptr id 0))/\some (TV.v (.map (mK x)))=some (TV.v (.map ((tO g).2)))/\some (Lp C m)=some (Lp C m)/\some (Lq C)=some (Lq C)/\tI (wW ((x.1:Int)+1))=tI (g.1:Int)/\p=g.2.1/\(g.1
 <=C.length/\(∃(a b c d:IV),h.get id=IObj.cells [a,b,c,d]/\Heap.get g.2.1 id=IObj.cells [a,b,IV.map ((tO g).1),d])/\(∃(l:List (Int×Iv)),g.2.1.get ((tO g).1)=IObj.map (cM eI l)/\∀(k:Int),zK k l=vZ (List.take g.1 C) k)/\(∃
 (l:List (Int×Bool)),g.2.1.get ((tO g).2)=IObj.map (cM IV.bool l)/\∀(k:Int),zK k l=if sE (List.take g.1 C) k=true then some true else none)/\(h.next<=Prod.fst (tO g)/\Heap.next h<=Prod.snd (tO g)/\Prod.fst (tO g)≠Prod.snd (tO g)/\Prod.fst
 (tO g)<g.2.1.next/\Prod.snd (tO g)<g.2.1.next)/\∀(j:Nat),j<h.next->j≠id->Heap.get g.2.1 j=h.get j)/\C.length-g.1<C.length-x.1
theorem d9R(id:Nat)(C:IvC)(g:Nat)(h:Heap)(Q:KT):dF (aR a4J) env 136 cS (oE 4 (Ko id C g h)) bK [.ptr id 0,.vslice none g C.length 3 (C.flatMap Hj)] h Q=(
 aJ (h.push (IObj.map [])) id fun r0=>aC (Nat.ble 3 r0.length) ((∃(x:Nat×Heap×Nat×Nat),some (TV.v (.ptr id 0))=some (TV.v (.ptr id 0))/\some (TV.v (.map (h.next+1)))=some (TV.v (.map (mK x)))/\some (Lp C g)=some (Lp C g)/\some (Lq C)=some (Lq C)/\tI 0=tI (x.1:Int)/\Heap.push ((h.push (IObj.map [])).set id (IObj.cells (List.take 2 r0++ [IV.map (h.next)]++List.drop 3 r0))) (IObj.map [])=x.2.1/\(x.1<=C.length/\(∃(a b c d:IV),h.get id=IObj.cells [a,b,c,d]/\Heap.get (gN x) id=IObj.cells [a,b,IV.map ((tP x).1),d])/\(∃(q:List (Int×Iv)),(gN x).get ((tP x).1)=IObj.map (cM eI q)/\∀(k:Int),zK k q=vZ (List.take x.1 C) k)/\(∃(q:List (Int×Bool)),(gN x).get (mK x)=IObj.map (cM IV.bool q)/\∀(k:Int),zK k q=if sE (List.take x.1 C) k=true then some true else none)/\(h.next<=Prod.fst (tP x)/\Heap.next h<=Prod.snd (tP x)/\Prod.fst (tP x)≠Prod.snd (tP x)/\Prod.fst (tP x)< (gN x).next/\Prod.snd (tP x)< (gN x).next)/\∀(j:Nat),j<h.next->j≠id->Heap.get (gN x) j=h.get j)/\True)/\∀(x:Nat×Heap×Nat×Nat)(b:FF),x.1<=C.length/\a3F id h (gN x) (List.take x.1 C) ((tP x).1) (mK x)->aI (decide ((x.1:Int)< (C.length:Int))) (aC (decide (0<=(x.1:Int)) &&decide ((x.1:Int)< (C.length:Int))) (aG .i64 (List.flatMap Hj C) ((x.1:Int).toNat*3) fun m=>aG .i64 (List.flatMap Hj C) ((x.1:Int).toNat*3+1) fun G=>aG .i64 (List.flatMap Hj C) ((x.1:Int).toNat*3+1+1) fun(K:Int)=>gC (gN x) (mK x) yN (yO m) (fun r4=>rE r4 0 fun R=>aI (!R) (aI (decide (G<=K)) (aJ (gN x) id fun r6=>oZ r6 2 fun(O:Nat)=>lU (gN x) O yN (yO m) (IV.agg [.int .i64 G,iI K]) fun(D:List (IV×IV))=>lU ((gN x).set O (IObj.map D)) (mK x) yN (yO m) (IV.bool true) fun(L:List (IV×IV))=>C6 C g id h x (((gN x).set O (IObj.map D)).set (mK x) (IObj.map L))) (lU (gN x) (mK x) yN (yO m) (IV.bool true) fun(r:List (IV×IV))=>C6 C g id h x ((gN x).set (mK x) (IObj.map r)))) (lU (gN x) (mK x) yN (yO m) (IV.bool true) fun(y:List (IV×IV))=>C6 C g id h x ((gN x).set (mK x) (IObj.map y)))) (aI (decide (G<=K)) (aJ (gN x) id fun G9=>oZ G9 2 fun(p:Nat)=>lU (gN x) p yN (yO m) (IV.agg [.int .i64 G,iI K]) fun(l:List (IV×IV))=>lU ((gN x).set p (IObj.map l)) (mK x) yN (yO m) (IV.bool true) fun(z:List (IV×IV))=>C6 C g id h x (((gN x).set p (IObj.map l)).set (mK x) (IObj.map z))) (lU (gN x) (mK x) yN (yO m) (IV.bool true) fun(A:List (IV×IV))=>C6 C g id h x ((gN x).set (mK x) (IObj.map A)))))) (Q (.tuple []) (gN x)))):=by kernel_rfl
theorem d8A: ∀xs h Q,a7R xs h Q->aL env 136 xs h Q:=by
 intro xs h Q z;unfold a7R at z;split at z
 ·rename_i id O Z c1;obtain⟨C,a,b,c,d,⟨rfl,rfl⟩,hb,z⟩:=z;refine aN (a9E) (d9R id C O h Q) ?_;delta C6 mK gN Lp yN Lq tO tP yO tI wW iI;have tn: ∀x:Nat,(x:Int).toNat=x:=AK
  obtain⟨G,K,hC⟩:=hb;have a0:(h.push (.map [])).get id= .cells [a,b,c,d]:=(aQ K).trans G;refine aD a0 (aA rfl ⟨⟨(0,((h.push (.map [])).set id (.cells [a,b,.map h.next,d])).push (.map []),h.next,h.next+1),JJ,JJ,JJ,JJ,JJ,JJ,⟨BE _,⟨a,b,c,d,G,?_⟩,⟨[],?_,fun _=>rfl⟩,⟨[],?_,fun _=>rfl⟩,⟨AG _,EE _,EQ (AV _),by show h.next<h.next+1+1;omega,by show h.next+1<h.next+1+1;omega⟩,fun j hj a1=>?_⟩,trivial⟩,?_⟩)
  ·exact(aQ (show id<h.next+1 by omega)).trans aK
  ·exact(aQ (show h.next<h.next+1 by omega)).trans ((aH (FU K)).trans aT)
  ·exact aT
  ·exact(aQ (show j<h.next+1 by omega)).trans ((aH a1).trans (aQ hj))
  rintro⟨j,g,m,p⟩ _ ⟨hj,a3⟩;obtain⟨⟨a',b',c',d',O,R⟩,⟨Y,e3,V⟩,⟨D,A,X⟩,⟨Z,n2,L,n4,n5⟩,fr⟩:=(show a3F id h g (C.take j) m p from a3);obtain⟨rfl,rfl,rfl,rfl⟩:a=a'/\b=b'/\c=c'/\d=d':=by
   rw [G]at O;simpa using O
  dsimp only at hj⊢;refine gO (fun cj=>?_) (fun cj=>?_)
  ·have l:j<C.length:=JF;have et:C.take (j+1)=C.take j++ [C[j]]:=AZ l;have y:some (TV.v (IV.int IntKind.i64 (IntKind.i64.wrap ((j:Int)+1))))=some (TV.v (IV.int IntKind.i64 ((j+1:Nat):Int))):=by rw [AF _ JF];rfl
   refine aW ⟨JF,JF⟩ (bB (by rw [tn];exact Cj l 0 JG) (bB (by rw [tn];exact Cj l 1 JG) (bB (by rw [tn];exact Cj l 2 JG) ?_)));have skip:(sE (C.take j) C[j].1=true\/ ¬C[j].2.1<=C[j].2.2)->a3F id h (g.set p (.map (cM IV.bool (upM C[j].1 true D)))) (C.take (j+1)) m p:=fun q=>by
    rw [et];exact⟨⟨a,b,c,d,G,by rw [aH JF];exact R⟩,⟨Y,by rw [aH L];exact e3,a7Q V q⟩,⟨_,aK,Z3 X⟩,⟨Z,n2,L,n4,n5⟩,fun q hq r=>(aH JF).trans (fr q hq r)⟩
   cases hh:sE (C.take j) C[j].1 with
   |true=>
    refine fU A (qV (by rw [X,if_pos hh])) (A7 rfl (bf rfl (eX A (T4 _ _ _ _) ⟨(j+1,_,m,p),JJ,JJ,JJ,JJ,y,JJ,⟨l,skip (.inl hh)⟩,JK⟩)))
   |false=>
    refine fT A (qU (by rw [X,if_neg (by rw [hh];decide)])) (gO (fun cv=>?_) (fun cv=>?_))
    ·refine aD R (iP rfl (eX e3 (T4 eI C[j].1 C[j].2 Y) (eX ((aH L.symm).trans A) (T4 _ _ _ _) ⟨(j+1,(g.set m (.map (cM eI (upM C[j].1 C[j].2 Y)))).set p (.map (cM IV.bool (upM C[j].1 true D))),m,p),JJ,JJ,JJ,JJ,y,JJ,⟨l,?_⟩,JK⟩)));show a3F id h _ (C.take (j+1)) m p;rw [et];exact⟨⟨a,b,c,d,G,by rw [aH JF,aH JF];exact R⟩,⟨_,by rw [aH L];exact aK,a0F V hh cv⟩,⟨_,aK,Z3 X⟩,⟨Z,n2,L,n4,n5⟩,fun q hq r=>(aH JF).trans ((aH JF).trans (fr q hq r))⟩
    ·exact eX A (T4 _ _ _ _) ⟨(j+1,_,m,p),JJ,JJ,JJ,JJ,y,JJ,⟨l,skip (.inr cv)⟩,JK⟩
  ·have a2:C.take j=C:=AM JF;rw [a2]at V;exact z g m Y R ⟨e3,V⟩ ⟨Z,n4⟩ fr
 ·exact z.elim
def a5B:=aV 136 a7R a4J
theorem a9Q:aO env a5B:=aF d8A (a9E)
def knS(h:Heap)(m:Nat)(g:Int->Option Iv):Prop:= ∃es:List (Int×Iv),h.get m= .map (cM eI es)/\∀k,zK k es=g k
def unS(h:Heap)(j:IV)(l:Int->Bool):Prop:=(j= .nilmap/\∀k,l k=false) \/ ∃(m:Nat)(g:List (Int×Bool)),j= .map m/\h.get m= .map (cM IV.bool g)/\∀k,l k=(zK k g).getD false
def a7C(xs:Y14)(h:Heap)(K:KT):Prop:=match xs with
 | [.ptr id 0,.int .i64 v]=> ∃(a b m:IV)(l:Nat)(g:Int->Option Iv)(j:Int->Bool),h.get id= .cells [a,b,.map l,m]/\(knS h l g/\unS h m j/\(j v=true->g v=none))/\K (.tuple [eI ((g v).getD aM),.bool (j v)]) h
 |_=>False
def b3O:=[iI (-9223372036854775808),iI 9223372036854775807]
def Yn:=IV.tuple [.agg b3O,IV.bool false]
def Lx:=TypeDesc.int .i64
theorem d9E(id:Nat)(v:Int)(h:Heap)(Q:KT):dF (aR a5B) env 198 cS bK bK [.ptr id 0,.int .i64 v] h Q=(
 aJ h id fun r0=>P7 r0 3 (aJ h id fun r1=>oZ r1 2 fun(D:Nat)=>gC h D Lx (iI v) (fun r3=>Im 2 r3 0 fun z=>aG .i64 z 0 fun K=>aG .i64 z 1 fun L=>Q (.tuple [.agg [.int .i64 K,iI L],IV.bool false]) h) (Q Yn h)) fun(G:Nat)=>gC h G Lx (iI v) (fun r8=>rE r8 0 fun A=>aI A (Q (.tuple [.agg b3O,IV.bool true]) h) (aJ h id fun Ng=>oZ Ng 2 fun(l:Nat)=>gC h l Lx (iI v) (fun G9=>Im 2 G9 0 fun g=>aG .i64 g 0 fun p=>aG .i64 g 1 fun q=>Q (.tuple [IV.agg [.int .i64 p,iI q],IV.bool false]) h) (Q Yn h))) (aJ h id fun Rs=>oZ Rs 2 fun(m:Nat)=>gC h m Lx (iI v) (fun Gq=>Im 2 Gq 0 fun j=>aG .i64 j 0 fun r=>aG .i64 j 1 fun y=>Q (.tuple [.agg [.int .i64 r,iI y],IV.bool false]) h) (Q Yn h))):=by kernel_rfl
theorem d7L: ∀xs h Q,a7C xs h Q->aL env 198 xs h Q:=by
 intro xs h Q g;unfold a7C at g;split at g
 ·rename_i id v;obtain⟨a,b,mu,R,O,A,j,G,g⟩:=g;refine aN (a9Q) (d9E id v h Q) ?_;delta b3O Yn Lx iI;obtain⟨⟨Z,k1,k2⟩,L,K⟩:=G;have p:A v=false->gC h R (.int .i64) (.int .i64 v) (fun r3=>Im 2 r3 0 fun D=>aG .i64 D 0 fun V=>aG .i64 D 1 fun X=>Q (.tuple [.agg [.int .i64 V,.int .i64 X],.bool false]) h) (Q (.tuple [.agg [.int .i64 (-9223372036854775808),.int .i64 9223372036854775807],.bool false]) h):=fun u=>by
   rw [u]at g
   cases e:O v with
   |some r=>
    rw [e]at g;exact fU k1 (qV ((k2 v).trans e)) (c9J rfl rfl (bB rfl (bB rfl g)))
   |none=>
    rw [e]at g;exact fT k1 (qU ((k2 v).trans e)) g
  refine aD j ?_;rcases L with⟨rfl,Y⟩| ⟨m,l,rfl,y,z⟩
  ·exact a8E rfl (aD j (iP rfl (p (Y v))))
  ·refine a8D rfl ?_
   cases e:zK v l with
   |some x=>
    refine fU y (qV e) (A7 rfl ?_);have q:A v=x:=by rw [z,e];rfl
    cases x with
    |true=>
     refine bt rfl ?_;rw [q,K q]at g;exact g
    |false=>exact bf rfl (aD j (iP rfl (p q)))
   |none=>
    exact fT y (qU e) (aD j (iP rfl (p (by rw [z,e];rfl))))
 ·exact g.elim
def a4K:=aV 198 a7C a5B
theorem a9F:aO env a4K:=aF d7L (a9Q)
abbrev KnT:=Int->Option Iv
abbrev UnT:=Int->Bool
def AzS(h:Heap)(l:Y15)(j:Nat)(p:IV)(g:KnT)(q:UnT):Prop:=LOk l/\(∀n∈l,inR n.im)/\(knS h j g/\j<h.next)/\(unS h p q/\∀m,p= .map m->m<h.next)/\KOk g/\∀v,q v=true->g v=none
def ivI(id:Nat)(l:Y15)(m:Nat)(p:IV)(g:KnT)(j:UnT)(h:Heap):Inv':=eA (Nat×Heap×Nat×Nat×List Iv×Y13) (fun x=>[(0,.v (.ptr id 0)),(4,.v (.hslice x.2.2.1 0 l.length 2)),(5,.v (.hslice x.2.2.2.1 0 l.length 1)),(27,.v (.vslice none 0 (l).length 3 ((l).flatMap cN))),(28,.v (.int .i64 (l.length:Int))),(29,.v (.int .i64 (x.1:Int)))]) (fun _=>[]) (fun x=>x.2.1) (fun x=>IVg l g j x.1 x.2.1 x.2.2.1 x.2.2.2.1 x.2.2.2.2.1 x.2.2.2.2.2 h/\True) (fun x=>l.length-x.1)
def a6X(xs:Y14)(h:Heap)(K:KT):Prop:=match xs with
 | [.ptr id 0]=> ∃(l:Y15)(q:Nat)(r:IV)(p:KnT)(y:UnT),(h.get id= .cells [.vslice none 0 (l).length 3 ((l).flatMap cN),.vslice none 0 (aE l).length 1 ((aE l).map (IV.int .i64)),.map q,r]/\id<h.next)/\AzS h l q r p y/\∀(h2:Heap)(g m:Nat),h2.get g= .cells ((rG l p).flatMap cR)->h2.get m= .cells ((uG l y).map IV.bool)->(h.next<=g/\g<h2.next/\h.next<=m/\m<h2.next/\g≠m)->(∀j,j<h.next->h2.get j=h.get j)->K (.tuple [.hslice g 0 l.length 2,.hslice m 0 l.length 1]) h2
 |_=>False
def eY(x:Nat×Heap×Nat×Nat×List Iv×Y13):=(0:Nat)+(x.1:Int).toNat*2+2
def cK(x:Nat×Heap×Nat×Nat×List Iv×Y13):=x.2.2.1
def kW(x:Nat×Heap×Nat×Nat×List Iv×Y13):=(0:Nat)+(x.1:Int).toNat*2
def cE(x:Nat×Heap×Nat×Nat×List Iv×Y13)(gT:Y14):=x.2.1.set (cK x) (IObj.cells (List.take (kW x) gT++ [iI (-9223372036854775808),iI 9223372036854775807]++List.drop (eY x) gT))
def vJ(x:Nat×Heap×Nat×Nat×List Iv×Y13)(gT r:Y14)(g j l m p q:Int):=(cE x gT).set (cK x) (IObj.cells (List.take (kW x) r++ [iI ((mO g j l m p q).1),iI ((mO g j l m p q).2)]++List.drop (eY x) r))
def eQ(l:Y15):=l.length
def iN(l:Y15)(x:Nat×Heap×Nat×Nat×List Iv×Y13):=decide (0<=(x.1:Int)) &&decide ((x.1:Int)< ((eQ l):Int))
def jC(x:Nat×Heap×Nat×Nat×List Iv×Y13):=(0:Nat)+(x.1:Int).toNat*1+1
def dM(x:Nat×Heap×Nat×Nat×List Iv×Y13):=x.2.2.2.1
def Lr(h:Heap)(g:Nat):=((h.push IObj.free).push IObj.free).set (h.next) (IObj.cells (dY ((g:Int).toNat) [iI 0,iI 0]))
def tQ(x:Nat×Heap×Nat×Nat×List Iv×Y13):=(0:Nat)+(x.1:Int).toNat*1
def Bq(ks:Y12)(j:Nat):=(ks.length-1)/ (2:Nat)+1+j
def yP(g:Nat):=true&&decide (0< (g:Int))
def Ls(p g j l m:Int):=[iI ((pH p g j l m).1),iI ((pH p g j l m).2)]
def Yh(l:Y15):=TV.v (.vslice none 0 (eQ l) 3 (List.flatMap cN l))
def b3G(l:Y15)(ks:Y12)(j:Nat):=decide (0<=List.getD ks (Bq ks j) 0) &&decide (List.getD ks (Bq ks j) 0< ((eQ l):Int))
def Lt(g j l m:Int):=[iI (min g l),iI (max j m)]
def Yi(l:Y15):=TV.v (.int .i64 ((eQ l):Int))
def b3H(j:Int)(g:Int->Option Iv):=[iI ((Option.getD (g j) aM).1),iI ((Option.getD (g j) aM).2)]
def Yj(g:Nat):=true&&decide (1< (g:Int))
def Lu(x:Nat×Heap×Nat×Nat×List Iv×Y13):=x.2.2.2.2
def b3I(l:Y15)(ks:Y12)(j:Nat):=decide (0<=List.getD ks j 0) &&decide (List.getD ks j 0< ((eQ l):Int))
def jP(h:Heap)(id:Nat)(j:KnT)(l:Y15)(m:UnT)(x:Nat×Heap×Nat×Nat×List Iv×Y13)(p:Heap):Prop:= ∃(g:Nat×Heap×Nat×Nat×List Iv×Y13),some (TV.v (.ptr id 0))=some (TV.v (.ptr id 0))/\some (TV.v (.hslice (cK x) 0 (eQ l) 2))=some (TV.v (.hslice g.2.2.1 0 (eQ l) 2))/\some (TV.v (.hslice (dM x) 0 (eQ l) 1))=some (TV.v (.hslice g.2.2.2.1 0 (eQ l) 1))/\some
 (Yh l)=some (Yh l)/\some (Yi l)=some (Yi l)/\tI (wW ((x.1:Int)+1))=tI (g.1:Int)/\p=g.2.1/\(IVg l j m g.1 g.2.1 g.2.2.1 g.2.2.2.1 g.2.2.2.2.1 g.2.2.2.2.2 h/\True)/\l.length-g.1<l.length-x.1
theorem d8Z(id:Nat)(l:Y15)(mk:Nat)(mu:IV)(O:KnT)(un:UnT)(h:Heap)(Q:KT):dF (aR a4K) env 137 cS (oE 4 (ivI id l mk mu O un h)) bK [.ptr id 0] h Q=(
 aJ ((h.push IObj.free).push IObj.free) id fun r0=>aZ 3 r0 0 fun(i1:Y10)(e2 l3:Nat)(c4:Y14)=>aC (decide (0<=(l3:Int)) && (decide ((l3:Int)<=(l3:Int)) && (decide ((l3:Int)<=9223372036854775807) &&decide ((16:Int)*(l3:Int)<=140737488355328)))) (Pg ((h.push IObj.free).push IObj.free) (h.next) (aJ (Lr h l3) id fun r5=>aZ 3 r5 0 fun(i6:Y10)(e7 l8:Nat)(c9:Y14)=>aC (!Nat.beq (h.next) id) (aC (decide ((0:Int)<=(l8:Int)) && (decide ((l8:Int)<=(l8:Int)) && (decide ((l8:Int)<=9223372036854775807) &&decide ((1:Int)*(l8:Int)<=140737488355328)))) (Pg (Lr h l3) (h.next+1) (aJ ((Lr h l3).set (h.next+1) (IObj.cells (dY ((l8:Int).toNat) [IV.bool false]))) id fun Ng=>aZ 3 Ng 0 fun(h6:Y10)(h5 f0:Nat)(g8:Y14)=>(∃(x:Nat×Heap×Nat×Nat×List Iv×Y13),some (TV.v (.ptr id 0))=some (TV.v (.ptr id 0))/\some (TV.v (.hslice (h.next) 0 ((l3:Int).toNat) 2))=some (TV.v (.hslice (cK x) 0 (eQ l) 2))/\some (TV.v (.hslice (h.next+1) 0 ((l8:Int).toNat) 1))=some (TV.v (.hslice (dM x) 0 (eQ l) 1))/\some (TV.v (.vslice h6 h5 f0 3 g8))=some (Yh l)/\tI (f0:Int)=some (Yi l)/\tI 0=tI (x.1:Int)/\Heap.set (Lr h l3) (h.next+1) (IObj.cells (dY ((l8:Int).toNat) [IV.bool false]))=x.2.1/\(IVg l O un x.1 x.2.1 (cK x) (dM x) ((Lu x).1) ((Lu x).2) h/\True)/\True)/\∀(x:Nat×Heap×Nat×Nat×List Iv×Y13)(b:FF),IVg l O un x.1 x.2.1 (cK x) (dM x) ((Lu x).1) ((Lu x).2) h/\True->aI (decide ((x.1:Int)< ((eQ l):Int))) (aC (iN l x) (aG .i64 (List.flatMap cN l) ((x.1:Int).toNat*3) fun g=>aG .i64 (List.flatMap cN l) ((x.1:Int).toNat*3+1) fun Z=>aZ 1 (List.flatMap cN l) ((x.1:Int).toNat*3+1+1) fun(j5:Y10)(j1 p:Nat)(m:Y14)=>aC (iN l x) (aJ x.2.1 (cK x) fun gT=>aC (Nat.ble (eY x) gT.length) (aJ (cE x gT) id fun r22=>aZ 1 r22 1 fun(j6:Y10)(j2 h7:Nat)(g9:Y14)=>aC (decide (0<=(x.1:Int)) &&decide ((x.1:Int)< (h7:Int))) (aG .i64 g9 (((x.1):Int).toNat*1) fun i0=>aI (i0 !=1) (jP h id O l un x (cE x gT)) (aI (g==1) (aC (iN l x) (aJ (cE x gT) (cK x) fun d6=>aC (Nat.ble (eY x) d6.length) (jP h id O l un x ((cE x gT).set (cK x) (IObj.cells (List.take (kW x) d6++ [iI Z,iI Z]++List.drop (eY x) d6)))))) (aI (g==3) (∃(a b mu:IV)(mk:Nat)(a2:Int->Option Iv)(b1:Int->Bool),(cE x gT).get id=IObj.cells [a,b,IV.map mk,mu]/\(knS (cE x gT) mk a2/\unS (cE x gT) mu b1/\(b1 Z=true->a2 Z=none))/\aC (iN l x) (aJ (cE x gT) (cK x) fun a6=>aC (Nat.ble (eY x) a6.length) (aC (iN l x) (aJ ((cE x gT).set (cK x) (IObj.cells (List.take (kW x) a6++(b3H Z a2)++List.drop (eY x) a6))) (dM x) fun d7=>aC (Nat.ble (jC x) d7.length) (jP h id O l un x (((cE x gT).set (cK x) (IObj.cells (List.take (kW x) a6++(b3H Z a2)++List.drop (eY x) a6))).set (dM x) (IObj.cells (List.take (tQ x) d7++ [IV.bool (b1 Z)]++List.drop (jC x) d7)))))))) (aI (g==25) (aJ (cE x gT) id fun i2=>aZ 3 i2 0 fun(j7:Y10)(j3 h8:Nat)(d0:Y14)=>aC (yP p) (aG .i64 m 0 fun a3=>aC (decide (0<=a3) &&decide (a3< (h8:Int))) (aG .i64 d0 (a3.toNat*3) fun j9=>aG .i64 d0 (a3.toNat*3+1) fun f1=>aZ 1 d0 (a3.toNat*3+1+(1:Nat)) fun(j8:Y10)(j4 h9:Nat)(h0:Y14)=> ∃(ks:Y12)(j:Nat),(h9=ks.length/\h0=List.map (IV.int .i64) ks/\Z=(j:Int))/\(ks.length% (2:Nat)=1/\3<=ks.length/\ks.length<=40/\j<ks.length/ (2:Nat)/\0<=f1/\f1<=15)/\aC (b3I l ks j) (aJ (cE x gT) (cK x) fun f4=>aG .i64 f4 ((0:Nat)+(List.getD ks j 0).toNat*2) fun b2=>aG .i64 f4 ((0:Nat)+(List.getD ks j 0).toNat*(2:Nat)+1) fun b3=>aC (b3G l ks j) (aJ (cE x gT) (cK x) fun f5=>aG .i64 f5 ((0:Nat)+(List.getD ks (Bq ks j) 0).toNat*2) fun b4=>aG .i64 f5 ((0:Nat)+(List.getD ks (Bq ks j) 0).toNat*2+1) fun b5=>aC (b3I l ks j) (aJ (cE x gT) (dM x) fun i3=>rE i3 ((0:Nat)+(List.getD ks j 0).toNat*1) fun g1=>aI g1 (aC (iN l x) (aJ (cE x gT) (cK x) fun(a7:Y14)=>aC (Nat.ble (eY x) a7.length) (aC (iN l x) (aJ ((cE x gT).set (cK x) (IObj.cells (List.take (kW x) a7++(Lt b2 b3 b4 b5)++List.drop (eY x) a7))) (dM x) fun d8=>aC (Nat.ble (jC x) d8.length) (jP h id O l un x (((cE x gT).set (cK x) (IObj.cells (List.take (kW x) a7++(Lt b2 b3 b4 b5)++List.drop (eY x) a7))).set (dM x) (IObj.cells (List.take (tQ x) d8++ [IV.bool true]++List.drop (jC x) d8)))))))) (aC (b3G l ks j) (aJ (cE x gT) (dM x) fun(i4:Y14)=>rE i4 ((0:Nat)+(List.getD ks (Bq ks j) 0).toNat*1) fun g2=>aC (iN l x) (aJ (cE x gT) (cK x) fun a8=>aC (Nat.ble (eY x) a8.length) (aC (iN l x) (aJ ((cE x gT).set (cK x) (IObj.cells (List.take (kW x) a8++(Lt b2 b3 b4 b5)++List.drop (eY x) a8))) (dM x) fun d9=>aC (Nat.ble (jC x) d9.length) (jP h id O l un x (((cE x gT).set (cK x) (IObj.cells (List.take (kW x) a8++(Lt b2 b3 b4 b5)++List.drop (eY x) a8))).set (dM x) (IObj.cells (List.take (tQ x) d9++ [IV.bool g2]++List.drop (jC x) d9))))))))))))))) (aI (g==22) (aC (yP p) (aG .i64 m 0 fun b6=>aC (decide (0<=b6) &&decide (b6< ((eQ l):Int))) (aJ (cE x gT) (cK x) fun f6=>aG .i64 f6 ((0:Nat)+b6.toNat*2) fun z=>aG .i64 f6 ((0:Nat)+b6.toNat*2+1) fun A=>aC (Yj p) (aG .i64 m 1 fun b7=>aC (decide ((0:Int)<=b7) &&decide (b7< ((eQ l):Int))) (aJ (cE x gT) (cK x) fun f7=>aG .i64 f7 ((0:Nat)+b7.toNat*2) fun D=>aG .i64 f7 ((0:Nat)+b7.toNat*2+1) fun G=>aC (true&&decide ((2:Int)< (p:Int))) (aG .i64 m 2 fun b9=>aC (decide (0<=b9) &&decide (b9< ((eQ l):Int))) (aJ (cE x gT) (cK x) fun f8=>aG .i64 f8 ((0:Nat)+b9.toNat*2) fun K=>aG .i64 f8 ((0:Nat)+b9.toNat*2+1) fun L=>aC (iN l x) (aJ (cE x gT) (cK x) fun y=>aC (Nat.ble (eY x) y.length) (aC (yP p) (aG .i64 m 0 fun d1=>aC (decide (0<=d1) &&decide (d1< ((eQ l):Int))) (aJ (vJ x gT y z A D G K L) (dM x) fun i5=>rE i5 ((0:Nat)+d1.toNat*1) fun g3=>aI g3 (aC (iN l x) (aJ (vJ x gT y z A D G K L) (dM x) fun e1=>aC (Nat.ble (jC x) e1.length) (jP h id O l un x ((vJ x gT y z A D G K L).set (dM x) (IObj.cells (List.take (tQ x) e1++ [IV.bool true]++List.drop (jC x) e1)))))) (aC (Yj p) (aG .i64 m 1 fun d2=>aC (decide (0<=d2) &&decide (d2< ((eQ l):Int))) (aJ (vJ x gT y z A D G K L) (dM x) fun i7=>rE i7 ((0:Nat)+d2.toNat*1) fun g4=>aI g4 (aC (iN l x) (aJ (vJ x gT y z A D G K L) (dM x) fun e3=>aC (Nat.ble (jC x) e3.length) (jP h id O l un x ((vJ x gT y z A D G K L).set (dM x) (IObj.cells (List.take (tQ x) e3++ [IV.bool true]++List.drop (jC x) e3)))))) (aC (true&&decide (2< (p:Int))) (aG .i64 m 2 fun(d3:Int)=>aC (decide (0<=d3) &&decide (d3< ((eQ l):Int))) (aJ (vJ x gT y z A D G K L) (dM x) fun i8=>rE i8 ((0:Nat)+d3.toNat*1) fun g5=>aC (iN l x) (aJ (vJ x gT y z A D G K L) (dM x) fun e4=>aC (Nat.ble (jC x) e4.length) (jP h id O l un x ((vJ x gT y z A D G K L).set (dM x) (IObj.cells (List.take (tQ x) e4++ [IV.bool g5]++List.drop (jC x) e4)))))))))))))))))))))) (aI (g==20) (aC (yP p) (aG .i64 m 0 fun c0=>aC (decide (0<=c0) &&decide (c0< ((eQ l):Int))) (aJ (cE x gT) (cK x) fun f9=>aG .i64 f9 ((0:Nat)+c0.toNat*2) fun c1=>aG .i64 f9 ((0:Nat)+c0.toNat*(2:Nat)+1) fun c2=>aC (yP p) (aG .i64 m 0 fun d4=>aC (decide (0<=d4) &&decide (d4< ((eQ l):Int))) (aJ (cE x gT) (dM x) fun i9=>rE i9 ((0:Nat)+d4.toNat*1) fun g6=>aC (iN l x) (aJ (cE x gT) (cK x) fun a9=>aC (Nat.ble (eY x) a9.length) (aC (iN l x) (aJ ((cE x gT).set (cK x) (IObj.cells (List.take (kW x) a9++ [iI ((V9 g c1 c2).1),iI ((V9 g c1 c2).2)]++List.drop (eY x) a9))) (dM x) fun e5=>aC (Nat.ble (jC x) e5.length) (jP h id O l un x (((cE x gT).set (cK x) (IObj.cells (List.take (kW x) a9++ [iI ((V9 g c1 c2).1),iI ((V9 g c1 c2).2)]++List.drop (eY x) a9))).set (dM x) (IObj.cells (List.take (tQ x) e5++ [IV.bool g6]++List.drop (jC x) e5)))))))))))) (aI (g==21) (aC (yP p) (aG .i64 m 0 fun c3=>aC (decide (0<=c3) &&decide (c3< ((eQ l):Int))) (aJ (cE x gT) (cK x) fun g0=>aG .i64 g0 ((0:Nat)+c3.toNat*2) fun c5=>aG .i64 g0 ((0:Nat)+c3.toNat*2+1) fun c6=>aC (yP p) (aG .i64 m 0 fun(d5:Int)=>aC (decide (0<=d5) &&decide (d5< ((eQ l):Int))) (aJ (cE x gT) (dM x) fun j0=>rE j0 ((0:Nat)+d5.toNat*1) fun g7=>aC (iN l x) (aJ (cE x gT) (cK x) fun b0=>aC (Nat.ble (eY x) (b0.length)) (aC (iN l x) (aJ ((cE x gT).set (cK x) (IObj.cells (List.take (kW x) b0++ [iI ((V9 g c5 c6).1),iI ((V9 g c5 c6).2)]++List.drop (eY x) b0))) (dM x) fun e6=>aC (Nat.ble (jC x) (e6.length)) (jP h id O l un x (((cE x gT).set (cK x) (IObj.cells (List.take (kW x) b0++ [iI ((V9 g c5 c6).1),iI ((V9 g c5 c6).2)]++List.drop (eY x) b0))).set (dM x) (IObj.cells (List.take (tQ x) e6++ [IV.bool g7]++List.drop (jC x) e6)))))))))))) (aI (decide (g>=4)) (aI (decide (g<=19)) (aC (yP p) (aG .i64 m 0 fun q=>aC (Yj p) (aG .i64 m 1 fun r=>aC (decide (0<=q) &&decide (q< ((eQ l):Int))) (aJ (cE x gT) (cK x) fun c7=>aG .i64 c7 ((0:Nat)+q.toNat*2) fun R=>aG .i64 c7 ((0:Nat)+q.toNat*2+1) fun V=>aC (decide (0<=r) &&decide (r< ((eQ l):Int))) (aJ (cE x gT) (cK x) fun c8=>aG .i64 c8 ((0:Nat)+r.toNat*2) fun X=>aG .i64 c8 ((0:Nat)+r.toNat*2+1) fun Y=>((inR R/\inR V)/\inR X/\inR Y)/\aC (decide (0<=q) &&decide (q< ((eQ l):Int))) (aJ (cE x gT) (dM x) fun f2=>rE f2 ((0:Nat)+q.toNat*1) fun e8=>aI e8 (aC (iN l x) (aJ (cE x gT) (cK x) fun a0=>aC (Nat.ble (eY x) a0.length) (aC (iN l x) (aJ ((cE x gT).set (cK x) (IObj.cells (List.take (kW x) a0++(Ls g R V X Y)++List.drop (eY x) a0))) (dM x) fun a4=>aC (Nat.ble (jC x) a4.length) (jP h id O l un x (((cE x gT).set (cK x) (IObj.cells (List.take (kW x) a0++(Ls g R V X Y)++List.drop (eY x) a0))).set (dM x) (IObj.cells (List.take (tQ x) a4++ [IV.bool true]++List.drop (jC x) a4)))))))) (aC (decide (0<=r) &&decide (r< ((eQ l):Int))) (aJ (cE x gT) (dM x) fun f3=>rE f3 ((0:Nat)+r.toNat*1) fun e9=>aC (iN l x) (aJ (cE x gT) (cK x) fun a1=>aC (Nat.ble (eY x) a1.length) (aC (iN l x) (aJ ((cE x gT).set (cK x) (IObj.cells (List.take (kW x) a1++(Ls g R V X Y)++List.drop (eY x) a1))) (dM x) fun a5=>aC (Nat.ble (jC x) a5.length) (jP h id O l un x (((cE x gT).set (cK x) (IObj.cells (List.take (kW x) a1++(Ls g R V X Y)++List.drop (eY x) a1))).set (dM x) (IObj.cells (List.take (tQ x) a5++ [IV.bool e9]++List.drop (jC x) a5))))))))))))))) (jP h id O l un x (cE x gT))) (jP h id O l un x (cE x gT)))))))))))))) (Q (.tuple [.hslice (cK x) 0 (eQ l) 2,IV.hslice (dM x) 0 (eQ l) 1]) x.2.1))))))):=by kernel_rfl
theorem d7G: ∀xs h Q,a6X xs h Q->aL env 137 xs h Q:=by
 intro xs h Q hk;unfold a6X at hk;split at hk
 ·rename_i id;obtain⟨l,mk,mu,V,un,hb,hw,hk⟩:=hk;refine aN (a9F) (d8Z id l mk mu V un h Q) ?_;delta jP cE vJ iN eY jC dM cK kW Lr tQ Bq yP Ls eQ Yh b3G Lt Yi b3H Yj Lu b3I tI wW iI;have tn: ∀x:Nat,(x:Int).toNat=x:=AK
  obtain⟨hg,b4⟩:=hb;obtain⟨hL,e7,⟨e8,f8⟩,⟨g3,f9⟩,e5,d8⟩:=(show AzS h l mk mu V un from hw);obtain⟨hl,f0⟩:=(show LOk l from hL);have p1:((h.push .free).push .free).get id=h.get id:=by rw [aQ (show id< (h.push .free).next from BY b4),aQ b4]
  have p2:((h.push .free).push .free).get h.next= .free:=by rw [aQ (show h.next< (h.push .free).next from AV _),aT]
  have p3:((h.push .free).push .free).get (h.next+1)= .free:=aT;have p4: ∀j,j<h.next->((h.push .free).push .free).get j=h.get j:=fun j hj=>by rw [aQ (show j< (h.push .free).next from BY hj),aQ hj]
  have m1:h.next≠id:=FU b4;have m2:h.next+1≠id:=JF;have m3:h.next≠h.next+1:=JF;have r: ∀{p:Prop}[Decidable p]{A:Prop},p->A->aC (true&&decide p) A:=fun h a=>aA (by rw [decide_eq_true h];rfl) a
  refine aD (p1.trans hg) (bM rfl (aA (by simp;omega) (Z0 p2 (aD ((aH m1.symm).trans (p1.trans hg)) (bM rfl (aA (by rw [Rh.2 m1];rfl) (aA (by simp;omega) (Z0 ((aH m3.symm).trans p3) (aD ((aH m2.symm).trans ((aH m1.symm).trans (p1.trans hg))) (bM rfl ⟨⟨(0,(((h.push .free).push .free).set h.next (.cells (dY l.length [.int .i64 0,.int .i64 0]))).set (h.next+1) (.cells (dY l.length [.bool false])),h.next,h.next+1,List.replicate l.length (0,0),List.replicate l.length false),JJ,(by rw [tn]),(by rw [tn]),JJ,JJ,JJ,(by rw [tn]),⟨⟨⟨BE _,JH,JH,rfl,rfl,fun q _=>?_⟩,⟨?_,?_⟩,⟨AG _,EE _,m3,by show h.next<h.next+1+1;omega,by show h.next+1<h.next+1+1;omega⟩,fun j hj=>?_⟩,trivial⟩,trivial⟩,?_⟩))))))))))
  ·rw [AC,HX];split<;>rfl
  ·dsimp only;rw [aH m3,aK,c0M]
  ·dsimp only;rw [aK,R5]
  ·dsimp only;rw [aH JF,aH JF];exact p4 j hj
  rintro⟨i,g,G,L,R,U⟩ _ ⟨hv,_⟩;dsimp only at hv⊢;have g4:=hv;obtain⟨⟨hi,b7,c0,b9,d4,e6⟩,⟨d1,d2⟩,⟨c1,c2,c3,c4,c5⟩,fr⟩:=g4;refine gO (fun c=>?_) (fun c=>?_)
  case refine_2=>
   obtain rfl:i=l.length:=JF;have a1:R=rG l V:=by rw [AM JF]at b9;exact b9
   have a2:U=uG l un:=by rw [AM JF]at d4;exact d4
   exact hk g G L (by rw [<-a1];exact d1) (by rw [<-a2];exact d2) ⟨c1,c4,c2,c5,c3⟩ fr
  have a9:i<l.length:=JF;have D:0<=(i:Int)/\(i:Int)<l.length:=⟨JF,JF⟩;have Z:l.length- (i+1)<l.length-i:=JF;have g7:=aY l;have hs:i< (aE l).length:=JF;have a0:some (TV.v (IV.int IntKind.i64 (IntKind.i64.wrap ((i:Int)+1))))=some (TV.v (IV.int IntKind.i64 ((i+1:Nat):Int))):=by rw [AF _ JF];rfl
  refine aW D (pK a9 (by rw [tn]) (aW D (aD d1 (aA (by rw [AS,Hn,tn];omega) ?_))));have e0:List.take (0+(i:Int).toNat*2) (R.flatMap cR)++ [IV.int .i64 (-9223372036854775808),IV.int .i64 9223372036854775807]++List.drop (0+(i:Int).toNat*2+2) (R.flatMap cR)=(R.set i aM).flatMap cR:=by rw [tn,AX];exact d1R JF
  rw [e0];generalize hg1:g.set G (IObj.cells ((R.set i aM).flatMap cR))=g1;have kR:g1.get G= .cells ((R.set i aM).flatMap cR):=by rw [<-hg1];exact aK
  have kU:g1.get L= .cells (U.map IV.bool):=by rw [<-hg1,aH (Ne.symm c3)];exact d2
  have kj: ∀j,j<h.next->g1.get j=h.get j:=fun j hj=>by rw [<-hg1,aH JF];exact fr j hj
  have b2:=(kj id b4).trans hg;have c8:g1.next=g.next:=by rw [<-hg1];rfl
  have a3: ∀{X:Y14},(g1.set G (.cells X)).get L= .cells (U.map IV.bool):=fun{X} =>(aH (Ne.symm c3)).trans kU
  have a7:Nat.ble (0+(i:Int).toNat*2+2) ((R.set i aM).flatMap cR).length=true:=by rw [AS,Hn,BX,tn];omega
  have a5:Nat.ble (0+(i:Int).toNat*1+1) (U.map IV.bool).length=true:=by rw [AS,BG,tn];omega
  have a4: ∀a b:Int,List.take (0+i*2) ((R.set i aM).flatMap cR)++ [IV.int .i64 a,IV.int .i64 b]++List.drop (0+i*2+2) ((R.set i aM).flatMap cR)=(R.set i (a,b)).flatMap cR:=fun a b=>by rw [AX,d1R (by rw [BX];omega),List.set_set]
  have a6: ∀b:Bool,List.take (0+i*1) (U.map IV.bool)++ [IV.bool b]++List.drop (0+i*1+1) (U.map IV.bool)=(U.set i b).map IV.bool:=fun b=>by rw [AX,AO];exact e3W JF
  have d3:U.set i false=U:=a1T JF (e6 i (AG _));have e4: ∀(X Y:IObj) j,j≠G->j≠L->((g1.set G X).set L Y).get j=g.get j:=fun X Y j a b=>by rw [aH b,aH a,<-hg1,aH a]
  have O: ∀(a b:Int)(u:Bool),(a,b)=R9 l ((aE l).getD i 0) V (R.set i aM) l[i]->u=Ni l ((aE l).getD i 0) un U l[i]->IVg l V un (i+1) ((g1.set G (.cells ((R.set i (a,b)).flatMap cR))).set L (.cells ((U.set i u).map IV.bool))) G L (R.set i (a,b)) (U.set i u) h:=fun a b u er eu=>
   hv.step a9 ((aH c3).trans aK) aK rfl rfl er eu c8 (e4 _ _)
  have d0: ∀(a b:Int),(a,b)=R9 l ((aE l).getD i 0) V (R.set i aM) l[i]->false=Ni l ((aE l).getD i 0) un U l[i]->IVg l V un (i+1) (g1.set G (.cells ((R.set i (a,b)).flatMap cR))) G L (R.set i (a,b)) U h:=fun a b er eu=>
   hv.step a9 aK ((aH (Ne.symm c3)).trans kU) rfl d3.symm er eu c8 (fun j x y=>by rw [aH x,<-hg1,aH x])
  have b1:aM=R9 l ((aE l).getD i 0) V (R.set i aM) l[i]->false=Ni l ((aE l).getD i 0) un U l[i]->IVg l V un (i+1) g1 G L (R.set i aM) U h:=fun er eu=>
   hv.step a9 kR kU rfl d3.symm er eu c8 (fun j x y=>by rw [<-hg1,aH x])
  refine aD b2 (bM rfl (aW ⟨JF,JF⟩ (cX hs (by rw [tn,AO]) (aB (fun c1=>?_) (fun c1=>?_)))))
  ·rw [bne_iff_ne]at c1;have a8:(aE l).getD i 0≠1:=by rw [bH hs];exact c1
   exact⟨(i+1,g1,G,L,R.set i aM,U),JJ,JJ,JJ,JJ,JJ,a0,JJ,⟨b1 (by unfold R9;rw [if_pos a8]) (by unfold Ni;rw [if_pos a8]),trivial⟩,Z⟩
  rw [bne_eq_false_iff_eq]at c1;have a8:(aE l).getD i 0=1:=by rw [bH hs];exact c1
  obtain⟨v1,v2⟩:=T7 a9 a8;have g6:=Ss a9 a8;have hr:R9 l ((aE l).getD i 0) V (R.set i aM) l[i]=if l[i].op=3 then(V l[i].im).getD aM else if l[i].op=25 then ijn (gR (R.set i aM) (bI (sG l l[i]) l[i].im.toNat).f) (gR (R.set i aM) (bI (sG l l[i]) l[i].im.toNat).n)else Nf (R.set i aM) l[i]:=by
   unfold R9
   rw [if_neg (fun q=>q a8)]
  have hu:Ni l ((aE l).getD i 0) un U l[i]=if l[i].op=3 then un l[i].im else if l[i].op=25 then(gU U (bI (sG l l[i]) l[i].im.toNat).f||gU U (bI (sG l l[i]) l[i].im.toNat).n)else(decide (4<=l[i].op/\l[i].op<=22) &&l[i].ks.any (gU U)):=by
   unfold Ni
   rw [if_neg (fun q=>q a8)]
  have kq: ∀j,j<l[i].ks.length->0<=l[i].ks.getD j 0/\l[i].ks.getD j 0< (l.length:Int):=fun j hj=>by
   have:=v1 _ (N1 (z:=0) hj);exact⟨this.1,JF⟩
  have kr: ∀j,j<l[i].ks.length->0<=l[i].ks.getD j 0/\l[i].ks.getD j 0< ((R.set i aM).length:Int):=fun j hj=>by
   rw [BX,b7];exact kq j hj
  have ku: ∀j,j<l[i].ks.length->0<=l[i].ks.getD j 0/\l[i].ks.getD j 0< (U.length:Int):=fun j hj=>by
   rw [c0];exact kq j hj
  by_cases o1:l[i].op=1
  ·have e1:(l[i].im,l[i].im)=R9 l ((aE l).getD i 0) V (R.set i aM) l[i]:=by
    rw [hr,if_neg JF,if_neg JF];unfold Nf
    rw [if_pos o1]
   have e2:false=Ni l ((aE l).getD i 0) un U l[i]:=by
    rw [hu,if_neg JF,if_neg JF,decide_eq_false JF];rfl
   rw [beq_iff_eq.2 o1];exact bt rfl (aW D (aD kR (aA a7 ⟨(i+1,g1.set G (.cells ((R.set i (l[i].im,l[i].im)).flatMap cR)),G,L,R.set i (l[i].im,l[i].im),U),JJ,JJ,JJ,JJ,JJ,a0,(by rw [tn,a4]),⟨d0 _ _ e1 e2,trivial⟩,Z⟩)))
  refine bf (beq_eq_false_iff_ne.2 o1) ?_
  by_cases o3:l[i].op=3
  ·have e1:((V l[i].im).getD aM).1=((V l[i].im).getD aM).1:=rfl;have e2:(((V l[i].im).getD aM).1,((V l[i].im).getD aM).2)=R9 l ((aE l).getD i 0) V (R.set i aM) l[i]:=by
    rw [hr,if_pos o3]
   have e3:un l[i].im=Ni l ((aE l).getD i 0) un U l[i]:=by
    rw [hu,if_pos o3]
   obtain⟨es,s1,s2⟩:=e8;refine bt (beq_iff_eq.2 o3) ⟨_,_,mu,mk,V,un,b2,⟨⟨es,(kj mk f8).trans s1,s2⟩,?_,d8 _⟩,aW D (aD kR (aA a7 (aW D (aD a3 (aA a5 ⟨(i+1,(g1.set G (.cells ((R.set i (((V l[i].im).getD aM).1,((V l[i].im).getD aM).2)).flatMap cR))).set L (.cells ((U.set i (un l[i].im)).map IV.bool)),G,L,R.set i (((V l[i].im).getD aM).1,((V l[i].im).getD aM).2),U.set i (un l[i].im)),JJ,JJ,JJ,JJ,JJ,a0,(by rw [tn,a4,a6]),⟨O _ _ _ e2 e3,trivial⟩,Z⟩)))))⟩;rcases g3 with q| ⟨m,d9,q1,q2,q3⟩
   ·exact .inl q
   ·exact .inr ⟨m,d9,q1,(kj m (f9 m q1)).trans q2,q3⟩
  refine bf (beq_eq_false_iff_ne.2 o3) ?_
  by_cases o25:l[i].op=25
  ·rcases v2 with⟨_,q,hq,g2,q3,q4,q5,q6⟩| ⟨c9,_⟩
   case inr=>exact absurd o25 c9
   have c7:=xT q3;have g0:=c7.odd;have c6:=c7.im;have b0:q.toNat<l.length:=JF;have d6:sG l l[i]=l[q.toNat]:=by unfold sG;rw [hq];exact bH b0
   rw [bH b0]at g0 c6 q6;have d5:l[i].im.toNat<l[q.toNat].ks.length/2:=JF;have d7:=Vr (j:=l[i].im.toNat) c7 (by rw [bH b0];exact d5);rw [bH b0]at d7;obtain⟨f1,n1,_⟩:=d7;have e1:(min (gR (R.set i aM) (bI l[q.toNat] l[i].im.toNat).f).1 (gR (R.set i aM) (bI l[q.toNat] l[i].im.toNat).n).1,max (gR (R.set i aM) (bI l[q.toNat] l[i].im.toNat).f).2 (gR (R.set i aM) (bI l[q.toNat] l[i].im.toNat).n).2)=R9 l ((aE l).getD i 0) V (R.set i aM) l[i]:=by
    rw [hr,if_neg o3,if_pos o25,d6];rfl
   have e2:(gU U (bI l[q.toNat] l[i].im.toNat).f||gU U (bI l[q.toNat] l[i].im.toNat).n)=Ni l ((aE l).getD i 0) un U l[i]:=by
    rw [hu,if_neg o3,if_pos o25,d6]
   have f2:0<=(bI l[q.toNat] l[i].im.toNat).f/\(bI l[q.toNat] l[i].im.toNat).f< (l.length:Int):=⟨f1.1,JF⟩;have n2:0<=(bI l[q.toNat] l[i].im.toNat).n/\(bI l[q.toNat] l[i].im.toNat).n< (l.length:Int):=⟨n1.1,JF⟩;have f3:0<=(bI l[q.toNat] l[i].im.toNat).f/\(bI l[q.toNat] l[i].im.toNat).f< ((R.set i aM).length:Int):=by rw [BX,b7];exact f2
   have n3:0<=(bI l[q.toNat] l[i].im.toNat).n/\(bI l[q.toNat] l[i].im.toNat).n< ((R.set i aM).length:Int):=by rw [BX,b7];exact n2
   have f4:0<=(bI l[q.toNat] l[i].im.toNat).f/\(bI l[q.toNat] l[i].im.toNat).f< (U.length:Int):=by rw [c0];exact f2
   have n4:0<=(bI l[q.toNat] l[i].im.toNat).n/\(bI l[q.toNat] l[i].im.toNat).n< (U.length:Int):=by rw [c0];exact n2
   have g5:l[i].ks.length=1:=by rw [hq];rfl
   have e9:l[i].ks.getD 0 0=q:=by rw [hq];rfl
   refine bt (beq_iff_eq.2 o25) (aD b2 (bM rfl (r JF (P5 JF rfl ?_))));rw [e9];refine aW ⟨g2.1,JF⟩ (pK b0 rfl ⟨l[q.toNat].ks,l[i].im.toNat,⟨rfl,rfl,JF⟩,⟨JF,JF,f0 _ (AH b0),d5,c6.1,c6.2⟩,?_⟩);refine aW f2 (aD kR (Io f3 (by rw [AX];rfl) (aW n2 (aD kR (Io n3 (by rw [AX];rfl) (aW f2 (aD kU (Ip f4 (by rw [AX,AO];rfl) (aB (fun cu=>?_) (fun cu=>?_))))))))))
   ·rw [cu,CX]at e2;exact aW D (aD kR (aA a7 (aW D (aD a3 (aA a5 ⟨(i+1,(g1.set G (.cells ((R.set i (min (gR (R.set i aM) (bI l[q.toNat] l[i].im.toNat).f).1 (gR (R.set i aM) (bI l[q.toNat] l[i].im.toNat).n).1,max (gR (R.set i aM) (bI l[q.toNat] l[i].im.toNat).f).2 (gR (R.set i aM) (bI l[q.toNat] l[i].im.toNat).n).2)).flatMap cR))).set L (.cells ((U.set i (true)).map IV.bool)),G,L,R.set i (min (gR (R.set i aM) (bI l[q.toNat] l[i].im.toNat).f).1 (gR (R.set i aM) (bI l[q.toNat] l[i].im.toNat).n).1,max (gR (R.set i aM) (bI l[q.toNat] l[i].im.toNat).f).2 (gR (R.set i aM) (bI l[q.toNat] l[i].im.toNat).n).2),U.set i (true)),JJ,JJ,JJ,JJ,JJ,a0,(by rw [tn,a4,a6]),⟨O _ _ _ e1 e2,trivial⟩,Z⟩)))))
   ·rw [cu,DZ]at e2;exact aW n2 (aD kU (Ip n4 (by rw [AX,AO];rfl) (aW D (aD kR (aA a7 (aW D (aD a3 (aA a5 ⟨(i+1,(g1.set G (.cells ((R.set i (min (gR (R.set i aM) (bI l[q.toNat] l[i].im.toNat).f).1 (gR (R.set i aM) (bI l[q.toNat] l[i].im.toNat).n).1,max (gR (R.set i aM) (bI l[q.toNat] l[i].im.toNat).f).2 (gR (R.set i aM) (bI l[q.toNat] l[i].im.toNat).n).2)).flatMap cR))).set L (.cells ((U.set i (gU U (bI l[q.toNat] l[i].im.toNat).n)).map IV.bool)),G,L,R.set i (min (gR (R.set i aM) (bI l[q.toNat] l[i].im.toNat).f).1 (gR (R.set i aM) (bI l[q.toNat] l[i].im.toNat).n).1,max (gR (R.set i aM) (bI l[q.toNat] l[i].im.toNat).f).2 (gR (R.set i aM) (bI l[q.toNat] l[i].im.toNat).n).2),U.set i (gU U (bI l[q.toNat] l[i].im.toNat).n)),JJ,JJ,JJ,JJ,JJ,a0,(by rw [tn,a4,a6]),⟨O _ _ _ e1 e2,trivial⟩,Z⟩))))))))
  refine bf (beq_eq_false_iff_ne.2 o25) ?_;rcases v2 with⟨c9,_⟩| ⟨_,_,_,b3,_⟩
  case inl=>exact absurd c9 o25
  unfold ar at b3;have K:Ni l ((aE l).getD i 0) un U l[i]=(decide (4<=l[i].op/\l[i].op<=22) &&l[i].ks.any (gU U)):=by rw [hu,if_neg o3,if_neg o25]
  have b5:R9 l ((aE l).getD i 0) V (R.set i aM) l[i]=Nf (R.set i aM) l[i]:=by rw [hr,if_neg o3,if_neg o25]
  by_cases o22:l[i].op=22
  ·have f7:l[i].ks.length=3:=by
    rw [if_neg JF,if_neg JF,if_neg JF,if_pos JF]at b3;omega
   have e1:((mO (gR (R.set i aM) (l[i].ks.getD 0 0)).1 (gR (R.set i aM) (l[i].ks.getD 0 0)).2 (gR (R.set i aM) (l[i].ks.getD 1 0)).1 (gR (R.set i aM) (l[i].ks.getD 1 0)).2 (gR (R.set i aM) (l[i].ks.getD 2 0)).1 (gR (R.set i aM) (l[i].ks.getD 2 0)).2).1,(mO (gR (R.set i aM) (l[i].ks.getD 0 0)).1 (gR (R.set i aM) (l[i].ks.getD 0 0)).2 (gR (R.set i aM) (l[i].ks.getD 1 0)).1 (gR (R.set i aM) (l[i].ks.getD 1 0)).2 (gR (R.set i aM) (l[i].ks.getD 2 0)).1 (gR (R.set i aM) (l[i].ks.getD 2 0)).2).2)=R9 l ((aE l).getD i 0) V (R.set i aM) l[i]:=by
    rw [b5];unfold Nf
    rw [if_neg o1,if_pos o22];rfl
   rw [e1E f7,decide_eq_true (show 4<=l[i].op/\l[i].op<=22 by omega),BC]at K;refine bt (beq_iff_eq.2 o22) (r JF (P5 JF rfl (aW (kq 0 JF) (aD kR (Io (kr 0 JF) (by rw [AX]) (r JF (P5 JF rfl (aW (kq 1 JF) (aD kR (Io (kr 1 JF) (by rw [AX]) (r JF (P5 JF rfl (aW (kq 2 JF) (aD kR (Io (kr 2 JF) (by rw [AX]) (aW D (aD kR (aA a7 (r JF (P5 JF rfl (aW (kq 0 JF) (aD a3 (Ip (ku 0 JF) (by rw [AX,AO]) (aB (fun cu=>?_) (fun cu=>?_)))))))))))))))))))))))))
   ·rw [cu,CX]at K;exact aW D (aD a3 (aA a5 ⟨(i+1,(g1.set G (.cells ((R.set i ((mO (gR (R.set i aM) (l[i].ks.getD 0 0)).1 (gR (R.set i aM) (l[i].ks.getD 0 0)).2 (gR (R.set i aM) (l[i].ks.getD 1 0)).1 (gR (R.set i aM) (l[i].ks.getD 1 0)).2 (gR (R.set i aM) (l[i].ks.getD 2 0)).1 (gR (R.set i aM) (l[i].ks.getD 2 0)).2).1,(mO (gR (R.set i aM) (l[i].ks.getD 0 0)).1 (gR (R.set i aM) (l[i].ks.getD 0 0)).2 (gR (R.set i aM) (l[i].ks.getD 1 0)).1 (gR (R.set i aM) (l[i].ks.getD 1 0)).2 (gR (R.set i aM) (l[i].ks.getD 2 0)).1 (gR (R.set i aM) (l[i].ks.getD 2 0)).2).2)).flatMap cR))).set L (.cells ((U.set i (true)).map IV.bool)),G,L,R.set i ((mO (gR (R.set i aM) (l[i].ks.getD 0 0)).1 (gR (R.set i aM) (l[i].ks.getD 0 0)).2 (gR (R.set i aM) (l[i].ks.getD 1 0)).1 (gR (R.set i aM) (l[i].ks.getD 1 0)).2 (gR (R.set i aM) (l[i].ks.getD 2 0)).1 (gR (R.set i aM) (l[i].ks.getD 2 0)).2).1,(mO (gR (R.set i aM) (l[i].ks.getD 0 0)).1 (gR (R.set i aM) (l[i].ks.getD 0 0)).2 (gR (R.set i aM) (l[i].ks.getD 1 0)).1 (gR (R.set i aM) (l[i].ks.getD 1 0)).2 (gR (R.set i aM) (l[i].ks.getD 2 0)).1 (gR (R.set i aM) (l[i].ks.getD 2 0)).2).2),U.set i (true)),JJ,JJ,JJ,JJ,JJ,a0,(by rw [tn,a4,a6]),⟨O _ _ _ e1 K.symm,trivial⟩,Z⟩))
   ·rw [cu,DZ]at K;refine r JF (P5 JF rfl (aW (kq 1 JF) (aD a3 (Ip (ku 1 JF) (by rw [AX,AO]) (aB (fun b6=>?_) (fun b6=>?_))))))
    ·rw [b6,CX]at K;exact aW D (aD a3 (aA a5 ⟨(i+1,(g1.set G (.cells ((R.set i ((mO (gR (R.set i aM) (l[i].ks.getD 0 0)).1 (gR (R.set i aM) (l[i].ks.getD 0 0)).2 (gR (R.set i aM) (l[i].ks.getD 1 0)).1 (gR (R.set i aM) (l[i].ks.getD 1 0)).2 (gR (R.set i aM) (l[i].ks.getD 2 0)).1 (gR (R.set i aM) (l[i].ks.getD 2 0)).2).1,(mO (gR (R.set i aM) (l[i].ks.getD 0 0)).1 (gR (R.set i aM) (l[i].ks.getD 0 0)).2 (gR (R.set i aM) (l[i].ks.getD 1 0)).1 (gR (R.set i aM) (l[i].ks.getD 1 0)).2 (gR (R.set i aM) (l[i].ks.getD 2 0)).1 (gR (R.set i aM) (l[i].ks.getD 2 0)).2).2)).flatMap cR))).set L (.cells ((U.set i (true)).map IV.bool)),G,L,R.set i ((mO (gR (R.set i aM) (l[i].ks.getD 0 0)).1 (gR (R.set i aM) (l[i].ks.getD 0 0)).2 (gR (R.set i aM) (l[i].ks.getD 1 0)).1 (gR (R.set i aM) (l[i].ks.getD 1 0)).2 (gR (R.set i aM) (l[i].ks.getD 2 0)).1 (gR (R.set i aM) (l[i].ks.getD 2 0)).2).1,(mO (gR (R.set i aM) (l[i].ks.getD 0 0)).1 (gR (R.set i aM) (l[i].ks.getD 0 0)).2 (gR (R.set i aM) (l[i].ks.getD 1 0)).1 (gR (R.set i aM) (l[i].ks.getD 1 0)).2 (gR (R.set i aM) (l[i].ks.getD 2 0)).1 (gR (R.set i aM) (l[i].ks.getD 2 0)).2).2),U.set i (true)),JJ,JJ,JJ,JJ,JJ,a0,(by rw [tn,a4,a6]),⟨O _ _ _ e1 K.symm,trivial⟩,Z⟩))
    ·rw [b6,DZ]at K;exact r JF (P5 JF rfl (aW (kq 2 JF) (aD a3 (Ip (ku 2 JF) (by rw [AX,AO]) (aW D (aD a3 (aA a5 ⟨(i+1,(g1.set G (.cells ((R.set i ((mO (gR (R.set i aM) (l[i].ks.getD 0 0)).1 (gR (R.set i aM) (l[i].ks.getD 0 0)).2 (gR (R.set i aM) (l[i].ks.getD 1 0)).1 (gR (R.set i aM) (l[i].ks.getD 1 0)).2 (gR (R.set i aM) (l[i].ks.getD 2 0)).1 (gR (R.set i aM) (l[i].ks.getD 2 0)).2).1,(mO (gR (R.set i aM) (l[i].ks.getD 0 0)).1 (gR (R.set i aM) (l[i].ks.getD 0 0)).2 (gR (R.set i aM) (l[i].ks.getD 1 0)).1 (gR (R.set i aM) (l[i].ks.getD 1 0)).2 (gR (R.set i aM) (l[i].ks.getD 2 0)).1 (gR (R.set i aM) (l[i].ks.getD 2 0)).2).2)).flatMap cR))).set L (.cells ((U.set i (gU U (l[i].ks.getD 2 0))).map IV.bool)),G,L,R.set i ((mO (gR (R.set i aM) (l[i].ks.getD 0 0)).1 (gR (R.set i aM) (l[i].ks.getD 0 0)).2 (gR (R.set i aM) (l[i].ks.getD 1 0)).1 (gR (R.set i aM) (l[i].ks.getD 1 0)).2 (gR (R.set i aM) (l[i].ks.getD 2 0)).1 (gR (R.set i aM) (l[i].ks.getD 2 0)).2).1,(mO (gR (R.set i aM) (l[i].ks.getD 0 0)).1 (gR (R.set i aM) (l[i].ks.getD 0 0)).2 (gR (R.set i aM) (l[i].ks.getD 1 0)).1 (gR (R.set i aM) (l[i].ks.getD 1 0)).2 (gR (R.set i aM) (l[i].ks.getD 2 0)).1 (gR (R.set i aM) (l[i].ks.getD 2 0)).2).2),U.set i (gU U (l[i].ks.getD 2 0))),JJ,JJ,JJ,JJ,JJ,a0,(by rw [tn,a4,a6]),⟨O _ _ _ e1 K.symm,trivial⟩,Z⟩)))))))
  refine bf (beq_eq_false_iff_ne.2 o22) ?_
  by_cases o20:l[i].op=20\/l[i].op=21
  ·have f5:l[i].ks.length=1:=by
    rw [if_neg JF,if_pos JF]at b3;omega
   have e1:((V9 l[i].op (gR (R.set i aM) (l[i].ks.getD 0 0)).1 (gR (R.set i aM) (l[i].ks.getD 0 0)).2).1,(V9 l[i].op (gR (R.set i aM) (l[i].ks.getD 0 0)).1 (gR (R.set i aM) (l[i].ks.getD 0 0)).2).2)=R9 l ((aE l).getD i 0) V (R.set i aM) l[i]:=by
    rw [b5];unfold Nf
    rw [if_neg o1,if_neg o22,if_pos o20];rfl
   rw [e1C f5,decide_eq_true (show 4<=l[i].op/\l[i].op<=22 by omega),BC]at K;have go: ∀A B:Prop,A->aI (l[i].op==20) A (aI (l[i].op==21) A B):=fun A B a=>aB (fun _=>a) (fun c2=>aB (fun _=>a) (fun c3=>by rw [beq_eq_false_iff_ne]at c2 c3;rcases o20 with q|q<;>contradiction))
   refine go _ _ ?_;exact r JF (P5 JF rfl (aW (kq 0 JF) (aD kR (Io (kr 0 JF) (by rw [AX]) (r JF (P5 JF rfl (aW (kq 0 JF) (aD kU (Ip (ku 0 JF) (by rw [AX,AO]) (aW D (aD kR (aA a7 (aW D (aD a3 (aA a5 ⟨(i+1,(g1.set G (.cells ((R.set i ((V9 l[i].op (gR (R.set i aM) (l[i].ks.getD 0 0)).1 (gR (R.set i aM) (l[i].ks.getD 0 0)).2).1,(V9 l[i].op (gR (R.set i aM) (l[i].ks.getD 0 0)).1 (gR (R.set i aM) (l[i].ks.getD 0 0)).2).2)).flatMap cR))).set L (.cells ((U.set i (gU U (l[i].ks.getD 0 0))).map IV.bool)),G,L,R.set i ((V9 l[i].op (gR (R.set i aM) (l[i].ks.getD 0 0)).1 (gR (R.set i aM) (l[i].ks.getD 0 0)).2).1,(V9 l[i].op (gR (R.set i aM) (l[i].ks.getD 0 0)).1 (gR (R.set i aM) (l[i].ks.getD 0 0)).2).2),U.set i (gU U (l[i].ks.getD 0 0))),JJ,JJ,JJ,JJ,JJ,a0,(by rw [tn,a4,a6]),⟨O _ _ _ e1 K.symm,trivial⟩,Z⟩)))))))))))))))
  refine bf (beq_eq_false_iff_ne.2 (fun q=>o20 (.inl q))) (bf (beq_eq_false_iff_ne.2 (fun q=>o20 (.inr q))) ?_)
  by_cases o4:4<=l[i].op/\l[i].op<=19
  ·have f6:l[i].ks.length=2:=by
    rw [if_neg JF,if_neg JF,if_pos JF]at b3;omega
   have e1:((pH l[i].op (gR (R.set i aM) (l[i].ks.getD 0 0)).1 (gR (R.set i aM) (l[i].ks.getD 0 0)).2 (gR (R.set i aM) (l[i].ks.getD 1 0)).1 (gR (R.set i aM) (l[i].ks.getD 1 0)).2).1,(pH l[i].op (gR (R.set i aM) (l[i].ks.getD 0 0)).1 (gR (R.set i aM) (l[i].ks.getD 0 0)).2 (gR (R.set i aM) (l[i].ks.getD 1 0)).1 (gR (R.set i aM) (l[i].ks.getD 1 0)).2).2)=R9 l ((aE l).getD i 0) V (R.set i aM) l[i]:=by
    rw [b5];unfold Nf
    rw [if_neg o1,if_neg o22,if_neg o20,if_pos o4];rfl
   rw [e1D f6,decide_eq_true (show 4<=l[i].op/\l[i].op<=22 by omega),BC]at K;have rR: ∀j,j<l[i].ks.length->inR (gR (R.set i aM) (l[i].ks.getD j 0)).1/\inR (gR (R.set i aM) (l[i].ks.getD j 0)).2:=fun j hj=>by
    have a:=v1 _ (N1 (z:=0) hj);have b:=(d6U e7 e5 (l[i].ks.getD j 0).toNat JF).2;have e:gR (R.set i aM) (l[i].ks.getD j 0)=(rG l V).getD (l[i].ks.getD j 0).toNat (0,0):=by
     unfold gR
     rw [C1 JF,<-d6V hi JF,<-b9,J1 JF]
    rw [e];exact b
   refine gO (fun _=>gO (fun _=>r JF (P5 JF rfl (r JF (P5 JF rfl (aW (kq 0 JF) (aD kR (Io (kr 0 JF) (by rw [AX]) (aW (kq 1 JF) (aD kR (Io (kr 1 JF) (by rw [AX]) (⟨⟨rR 0 JF,rR 1 JF⟩,aW (kq 0 JF) (aD kU (Ip (ku 0 JF) (by rw [AX,AO]) (aB (fun cu=>?_) (fun cu=>?_))))⟩))))))))))) (fun c2=>absurd o4.2 c2)) (fun c2=>absurd o4.1 c2)
   ·rw [cu,CX]at K;exact aW D (aD kR (aA a7 (aW D (aD a3 (aA a5 ⟨(i+1,(g1.set G (.cells ((R.set i ((pH l[i].op (gR (R.set i aM) (l[i].ks.getD 0 0)).1 (gR (R.set i aM) (l[i].ks.getD 0 0)).2 (gR (R.set i aM) (l[i].ks.getD 1 0)).1 (gR (R.set i aM) (l[i].ks.getD 1 0)).2).1,(pH l[i].op (gR (R.set i aM) (l[i].ks.getD 0 0)).1 (gR (R.set i aM) (l[i].ks.getD 0 0)).2 (gR (R.set i aM) (l[i].ks.getD 1 0)).1 (gR (R.set i aM) (l[i].ks.getD 1 0)).2).2)).flatMap cR))).set L (.cells ((U.set i (true)).map IV.bool)),G,L,R.set i ((pH l[i].op (gR (R.set i aM) (l[i].ks.getD 0 0)).1 (gR (R.set i aM) (l[i].ks.getD 0 0)).2 (gR (R.set i aM) (l[i].ks.getD 1 0)).1 (gR (R.set i aM) (l[i].ks.getD 1 0)).2).1,(pH l[i].op (gR (R.set i aM) (l[i].ks.getD 0 0)).1 (gR (R.set i aM) (l[i].ks.getD 0 0)).2 (gR (R.set i aM) (l[i].ks.getD 1 0)).1 (gR (R.set i aM) (l[i].ks.getD 1 0)).2).2),U.set i (true)),JJ,JJ,JJ,JJ,JJ,a0,(by rw [tn,a4,a6]),⟨O _ _ _ e1 K.symm,trivial⟩,Z⟩)))))
   ·rw [cu,DZ]at K;exact aW (kq 1 JF) (aD kU (Ip (ku 1 JF) (by rw [AX,AO]) (aW D (aD kR (aA a7 (aW D (aD a3 (aA a5 ⟨(i+1,(g1.set G (.cells ((R.set i ((pH l[i].op (gR (R.set i aM) (l[i].ks.getD 0 0)).1 (gR (R.set i aM) (l[i].ks.getD 0 0)).2 (gR (R.set i aM) (l[i].ks.getD 1 0)).1 (gR (R.set i aM) (l[i].ks.getD 1 0)).2).1,(pH l[i].op (gR (R.set i aM) (l[i].ks.getD 0 0)).1 (gR (R.set i aM) (l[i].ks.getD 0 0)).2 (gR (R.set i aM) (l[i].ks.getD 1 0)).1 (gR (R.set i aM) (l[i].ks.getD 1 0)).2).2)).flatMap cR))).set L (.cells ((U.set i (gU U (l[i].ks.getD 1 0))).map IV.bool)),G,L,R.set i ((pH l[i].op (gR (R.set i aM) (l[i].ks.getD 0 0)).1 (gR (R.set i aM) (l[i].ks.getD 0 0)).2 (gR (R.set i aM) (l[i].ks.getD 1 0)).1 (gR (R.set i aM) (l[i].ks.getD 1 0)).2).1,(pH l[i].op (gR (R.set i aM) (l[i].ks.getD 0 0)).1 (gR (R.set i aM) (l[i].ks.getD 0 0)).2 (gR (R.set i aM) (l[i].ks.getD 1 0)).1 (gR (R.set i aM) (l[i].ks.getD 1 0)).2).2),U.set i (gU U (l[i].ks.getD 1 0))),JJ,JJ,JJ,JJ,JJ,a0,(by rw [tn,a4,a6]),⟨O _ _ _ e1 K.symm,trivial⟩,Z⟩))))))))
  have e1:aM=R9 l ((aE l).getD i 0) V (R.set i aM) l[i]:=by
   rw [b5];unfold Nf
   rw [if_neg o1,if_neg o22,if_neg o20,if_neg o4];rfl
  have e2:false=Ni l ((aE l).getD i 0) un U l[i]:=by
   rw [K,decide_eq_false JF,BM]
  exact gO (fun c3=>gO (fun c4=>absurd ⟨c3,c4⟩ o4) (fun _=>⟨(i+1,g1,G,L,R.set i aM,U),JJ,JJ,JJ,JJ,JJ,a0,JJ,⟨b1 e1 e2,trivial⟩,Z⟩)) (fun _=>⟨(i+1,g1,G,L,R.set i aM,U),JJ,JJ,JJ,JJ,JJ,a0,JJ,⟨b1 e1 e2,trivial⟩,Z⟩)
 ·exact hk.elim
def a4F:=aV 137 a6X a4K
theorem a9A:aO env a4F:=aF d7G (a9F)
def a6W(xs:Y14)(h:Heap)(K:KT):Prop:=match xs with
 | [.vslice none e0 n 3 c,.vslice none e1 n1 3 c1]=> ∃(l:Y15)(C:IvC),(n=l.length/\c=l.flatMap cN/\n1=C.length/\c1=C.flatMap Hj)/\LOk l/\(∀n∈l,inR n.im)/\((∀p∈C,jK p.2)/\C.length<=1099511627776)/\K (.vslice none 0 l.length 2 ((rG l (vZ C)).flatMap cR)) h
 |_=>False
def d4U(l g:Y15):=[IV.vslice none 0 l.length 3 (List.flatMap cN l),IV.vslice none 0 ((aE g).length) 1 (List.map (IV.int .i64) (aE g)),IV.nilmap,IV.nilmap]
theorem d8Y(l:Y15)(C:IvC)(e0 L:Nat)(h:Heap)(Q:KT):dF (aR a4F) env 93 cS bK bK [.vslice none e0 (l).length 3 ((l).flatMap cN),.vslice none L C.length 3 (C.flatMap Hj)] h Q=(
 aC (aP [IV.vslice none 0 l.length 3 (List.flatMap cN l),IV.vslice none 0 C.length 3 (List.flatMap Hj C)]) (∃(p:Y15),(l.length=p.length/\List.flatMap cN l=List.flatMap cN p)/\LOk p/\∃(q:List (Int×Iv))(a b c d:IV),(C.length=q.length/\List.flatMap Hj C=List.flatMap Hj q)/\(IObj.cells (d4U l p)=IObj.cells [a,b,c,d]/\(0:Nat)<0+1/\q.length<=1152921504606846976)/\∀(h2:Heap)(m:Nat)(z:List (Int×Iv)),h2.get 0=IObj.cells [a,b,IV.map m,d]->(h2.get m=IObj.map (cM eI z)/\∀(k:Int),zK k z=vZ q k)->(0:Nat)+1<=m/\m<h2.next->(∀(j:Nat),j<0+1->j≠0->Heap.get h2 j=(Heap.mk (PT.node PT.nil (some (IObj.cells (d4U l p))) PT.nil) ((0:Nat)+1)).get j)-> ∃(l:Y15)(D:Nat)(G:IV)(A:Int->Option Iv)(K:Int->Bool),(h2.get 0=IObj.cells [IV.vslice none 0 l.length 3 (List.flatMap cN l),IV.vslice none 0 ((aE l).length) 1 (List.map (IV.int .i64) (aE l)),IV.map D,G]/\0<h2.next)/\AzS h2 l D G A K/\∀(g:Heap)(r y:Nat),g.get r=IObj.cells (List.flatMap cR (rG l A))->Heap.get g y=IObj.cells (List.map IV.bool (uG l K))->Heap.next h2<=r/\r<g.next/\Heap.next h2<=y/\y<g.next/\r≠y->(∀(j:Nat),j<h2.next->Heap.get g j=h2.get j)->aJ g r fun r0=>aC (true&&Nat.ble ((0:Nat)+l.length*2) r0.length) (aC (aP [IV.vslice none 0 l.length 2 (List.take (l.length*2) r0)]) (Q (.vslice none 0 l.length 2 (List.take (l.length*2) r0)) h)))):=by kernel_rfl
theorem d7F: ∀xs h Q,a6W xs h Q->aL env 93 xs h Q:=by
 intro xs h Q g;unfold a6W at g;split at g
 ·rename_i e0 n c p O c1;obtain⟨l,C,⟨rfl,rfl,rfl,rfl⟩,hL,q,hC,g⟩:=g;refine aN (a9A) (d8Y l C e0 p h Q) ?_;delta d4U;have tn: ∀x:Nat,(x:Int).toNat=x:=AK
  have j:=Rt l (vZ C);have K:=aY l;refine aA (by simp only [aP,bG,bR,Ay,AL]) ⟨l,⟨rfl,rfl⟩,hL,C,(.vslice none 0 l.length 3 (l.flatMap cN)),(.vslice none 0 (aE l).length 1 ((aE l).map (IV.int .i64))),.nilmap,.nilmap,⟨rfl,rfl⟩,⟨JJ,JG,JF⟩,fun h2 m A p ⟨r,y⟩ ⟨O,R⟩ X=>⟨l,m,.nilmap,vZ C,fun _=>false,⟨p,JF⟩,⟨hL,q,⟨⟨A,r,y⟩,R⟩,⟨.inl ⟨rfl,fun _=>rfl⟩,fun m G=>by cases G⟩,c9B hC.1,fun v L=>by cases L⟩,fun h3 Y Z z V nn D=>aD z (aA ?_ ?_)⟩⟩
  ·rw [BC,AS,AX,<-j,Hn];exact AG _
  ·have:List.take (l.length*2) ((rG l (vZ C)).flatMap cR)=(rG l (vZ C)).flatMap cR:=AM (by rw [Hn,j];exact AG _);rw [this];exact aA (by simp only [aP,bG,yD,AL]) g
 ·exact g.elim
def c4O:=aV 93 a6W a4F
theorem c9V:aO env c4O:=aF d7F (a9A)
end Go.Proofs.YthimicfahhgpcaaGreat
end
end
