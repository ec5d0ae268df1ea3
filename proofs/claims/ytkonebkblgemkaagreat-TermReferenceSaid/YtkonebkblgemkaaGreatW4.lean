/-
  Texts of this proof, one after the other.
  Conditions: none.
-/
import Derived.Test.YtkonebkblgemkaaGreatW3
set_option linter.unusedVariables false
set_option linter.unusedSimpArgs false
set_option maxRecDepth 100000
set_option maxHeartbeats 4000000
noncomputable section
variable{i j m b:Nat}{x y z u v:Int}{h g:Go.Pv.Heap}{c d l:List Go.Pv.IV}{K L:Y12}{p s t:Go.Pv.IV}{D:Go.Pv.Meta}{V W:List Go.Value}{T U:Go.TypeId}{o:Bool}{X Y:Go.Value}{O:Go.Oper}{N:Y10}{H:Array Go.Value}
section
namespace Go.Pv
section
variable {E:Env} {f:FuncId} {o:Oper} {ev ev':Operand->Option TV} {h:Heap}
theorem uI{l:List Operand}(g: ∀x∈l,ev x=ev' x):l.map ev=l.map ev':=FH g
theorem sW{l:List (Nat×Operand)}(g: ∀x∈l.map (·.2),ev x=ev' x):(l.map fun(i,x)=>(i,ev x))=l.map fun(i,x)=>(i,ev' x):=
 FH fun p j=>by
  obtain⟨i,x⟩:=p;simp only [g x (EI.2 ⟨(i,x),j,rfl⟩)]
theorem uJ{x:Option Operand}(g: ∀y,x=some y->ev y=ev' y):x.map ev=x.map ev':=by
 cases x with
 |none=>rfl
 |some y=>simp [g y rfl]
theorem Vu(g: ∀x∈o.op.operands,ev x=ev' x):eA E f o ev=eA E f o ev':=by
 unfold eA
 cases hop:o.op<;>simp only [hop,Op.operands]at g⊢
 case move x=>rw [g x IP]
 case assign x=>rw [g x IP]
 case pick c a b=>rw [g c IP,g a IP,g b IP]
 case box t x=>rw [g x IP]
 case build t ps=>rw [sW (ev:=ev) (ev':=ev') (fun x p=>g x (by simpa using p))]
 case buildSlice t n ps=>rw [sW (ev:=ev) (ev':=ev') (fun x p=>g x (by simpa using p))]
 case load t x=>rw [g x IP]
 case nilCheck x=>rw [g x IP]
 case binOp op t x y u=>rw [g x IP,g y IP]
 case unOp op t x=>rw [g x IP]
 case convert s d x=>rw [g x IP]
 case makeInterface t x=>rw [g x IP]
 case makeFunc fn a b=>rw [uI (ev:=ev) (ev':=ev') (fun x p=>g x (by simp at p⊢;exact .inl p)),uI (ev:=ev) (ev':=ev') (l:=b.toList) (fun x p=>g x (by simp at p⊢;exact .inr p))]
 case slice t x lo hi mx=>
  rw [g x IP,uJ (ev:=ev) (ev':=ev') (fun y D=>g y (by subst D;simp)),uJ (ev:=ev) (ev':=ev') (x:=hi) (fun y D=>g y (by subst D;simp))]
 case fieldAddr t x i=>rw [g x IP]
 case field t x i=>rw [g x IP]
 case indexAddr t x i=>rw [g x IP,g i IP]
 case index t x i=>rw [g x IP,g i IP]
 case extract x i=>rw [g x IP]
 case typeAssert x s t ok=>rw [g x IP]
 case call c=>
  obtain⟨z,j,A⟩:=c
  cases z with
  |value x=>rfl
  |invoke x n=>rfl
  |builtin b=>
   have ha: ∀x∈j.toList,ev x=ev' x:=fun x p=>g x (by simp [Call.operands];simpa using p)
   have h0:((j[0]?).bind fun x=>bJ (ev x))=(j[0]?).bind fun x=>bJ (ev' x):=by
    cases hq:j[0]? with
    |none=>rfl
    |some y=>
     have:y∈j.toList:=by
      rw [<-Array.getElem?_toList]at hq;exact CR hq
     simp [ha y this]
   cases b<;>simp only [h0,uI ha]
theorem Vv{lv lv':Nat->Option (Y14)}(g: ∀x∈o.op.operands,ev x=ev' x)(i: ∀s,lv s=lv' s):fR E o ev lv=fR E o ev' lv':=by
 have:lv=lv':=funext i;subst this;unfold fR
 cases hop:o.op<;>simp only [hop,Op.operands]at g⊢
 case load t x=>rw [g x IP]
theorem Vw{lv lv':Nat->Option (Y14)}(g: ∀x∈o.op.operands,ev x=ev' x)(i: ∀s,lv s=lv' s):gJ E o ev lv=gJ E o ev' lv':=by
 have:lv=lv':=funext i;subst this;unfold gJ
 cases hop:o.op<;>simp only [hop,Op.operands]at g⊢
 case store t a x=>rw [g a IP,g x IP]
theorem wH(j: ∀x∈o.op.operands,ev x=ev' x):dO E o ev h=dO E o ev' h:=by
 unfold dO
 cases hop:o.op<;>simp only [hop,Op.operands]at j⊢
 case load t x=>rw [j x IP]
 case convert s d x=>rw [j x IP]
 case slice t x lo hi mx=>
  rw [j x IP,uJ (ev:=ev) (ev':=ev') (fun y p=>j y (by subst p;simp)),uJ (ev:=ev) (ev':=ev') (x:=hi) (fun y p=>j y (by subst p;simp))]
 case lookup t x k ok=>rw [j x IP,j k IP]
 case call c=>
  obtain⟨i,g,l⟩:=c
  cases i with
  |value x=>rfl
  |invoke x n=>rfl
  |builtin b=>
   have ha: ∀x∈g.toList,ev x=ev' x:=fun x u=>j x (by simp [Call.operands];simpa using u)
   have h0:((g[0]?).bind fun x=>bJ (ev x))=(g[0]?).bind fun x=>bJ (ev' x):=by
    cases hq:g[0]? with
    |none=>rfl
    |some y=>
     have:y∈g.toList:=by
      rw [<-Array.getElem?_toList]at hq;exact CR hq
     simp [ha y this]
   cases b<;>simp only [h0]
theorem Vx(g: ∀x∈o.op.operands,ev x=ev' x):fZ E f o ev h=fZ E f o ev' h:=by
 unfold fZ
 cases hop:o.op<;>simp only [hop,Op.operands]at g⊢
 case move x=>rw [g x IP]
 case box t x=>rw [g x IP]
 case buildSlice t n ps=>rw [sW (ev:=ev) (ev':=ev') (fun x z=>g x (by simpa using z))]
 case makeSlice t l c=>rw [g l IP,g c IP]
 case convert s d x=>rw [g x IP]
 case store t a x=>rw [g a IP,g x IP]
 case mapUpdate t m k x=>rw [g m IP,g k IP,g x IP]
 case mapEntry t m k=>rw [g m IP,g k IP]
 case entryStore t m s x=>rw [g m IP,g s IP,g x IP]
 case call c=>
  obtain⟨j,u,p⟩:=c
  cases j with
  |value x=>rfl
  |invoke x n=>rfl
  |builtin b=>
   have ha: ∀x∈u.toList,ev x=ev' x:=fun x z=>g x (by simp [Call.operands];simpa using z)
   cases b<;>try rfl
   ·simp only;split
    ·rename_i A D _ i;rw [ha A (by rw [i];simp),ha D (by rw [i];simp)]
    ·rfl
   ·simp only;split
    ·rename_i A D _ i;rw [ha A (by rw [i];simp),ha D (by rw [i];simp)]
    ·rfl
theorem Ze{n:Nat}(u: ∀x∈o.op.operands,ev x=ev' x):zJ E f o ev n=zJ E f o ev' n:=by
 unfold zJ
 cases hop:o.op<;>simp only [hop,Op.operands]at u⊢
 case makeSlice t l c=>rw [u l IP,u c IP]
 case call c=>
  obtain⟨g,j,i⟩:=c
  cases g with
  |value x=>rfl
  |invoke x n=>rfl
  |builtin b=>
   have ha: ∀x∈j.toList,ev x=ev' x:=fun x z=>u x (by simp [Call.operands];simpa using z)
   cases b<;>try rfl
   simp only;split
   ·rename_i A D _ p;rw [ha A (by rw [p];simp),ha D (by rw [p];simp)]
   ·rfl
theorem wI(l: ∀x∈o.op.operands,ev x=ev' x):iX o ev=iX o ev':=by
 unfold iX
 cases hop:o.op<;>simp only [hop,Op.operands]at l⊢
 case load t x=>rw [l x IP]
 case convert s d x=>rw [l x IP]
 case slice t x lo hi mx=>rw [l x IP]
 case lookup t x k ok=>rw [l x IP]
 case call c=>
  obtain⟨i,g,j⟩:=c
  cases i with
  |value x=>rfl
  |invoke x n=>rfl
  |builtin b=>
   have ha: ∀x∈g.toList,ev x=ev' x:=fun x p=>l x (by simp [Call.operands];simpa using p)
   have h0:((g[0]?).bind fun x=>bJ (ev x))=(g[0]?).bind fun x=>bJ (ev' x):=by
    cases hq:g[0]? with
    |none=>rfl
    |some y=>
     have:y∈g.toList:=by
      rw [<-Array.getElem?_toList]at hq;exact CR hq
     simp [ha y this]
   cases b<;>simp only [h0]
theorem S4(l: ∀x∈o.op.operands,ev x=ev' x):dM o ev=dM o ev':=by
 unfold dM
 cases hop:o.op<;>simp only [hop,Op.operands]at l⊢
 case call c=>
  obtain⟨g,j,i⟩:=c
  cases g with
  |builtin b=>rfl
  |invoke x n=>rfl
  |value x=>
   have ha: ∀x∈j.toList,ev x=ev' x:=fun y p=>l y (by simp [Call.operands];simp at p;exact .inr p)
   simp only;rw [l x (by simp [Call.operands]),uI ha]
end
def lD(h h2:Heap):Y10->Prop
 |none=>True
 |some id=>h2.get id=h.get id
theorem wJ{E:Env}{o:Oper}{ev:Operand->Option TV}{h h2:Heap}{v:TV}(g:dO E o ev h=some v)(hs:lD h h2 (iX o ev)):dO E o ev h2=some v:=by
 unfold iX at hs;unfold dO at g⊢;split at g
 ·rename_i t a i;simp only [i]at hs⊢;split at g
  ·rename_i id u G;simp only [G,lD]at hs⊢;rw [hs];exact g
  ·cases g
 ·rename_i s d x i;simp only [i]at hs⊢;split at g
  ·rename_i e id u len z j p;simp only [p,lD]at hs;simp only [z,j,p,hs];exact g
  ·cases g
 ·rename_i t x lo hi T i;simp only [i]at hs⊢;split at g
  ·rename_i n e id u j p;simp only [p,lD]at hs;simp only [j,p,hs];exact g
  ·cases g
 ·rename_i t x k V i;simp only [i]at hs⊢;split at g
  ·rename_i O L m K z j p
   cases m with
   |map id=>
    rw [j]at hs;have A:h2.get id=h.get id:=hs;simp only [A]at g⊢;exact g
   |_=>exact g
  ·cases g
 ·rename_i D l _ i;simp only [i]at hs⊢;split at g
  ·rename_i t id z j;simp only [j,lD]at hs;simp only [z,j,hs];exact g
  ·cases g
 ·cases g
theorem Vy{E:Env}{o:Oper}{ev:Operand->Option TV}{h:Heap}{v:TV}{id:Nat}(g:dO E o ev h=some v)(hi:iX o ev=some id):h.get id≠ .free:=by
 intro hf;unfold iX at hi;unfold dO at g;split at g
 ·rename_i t a i;simp only [i]at hi;split at g
  ·rename_i j u G;simp only [G,AC]at hi;subst hi;rw [hf]at g;cases g
  ·cases g
 ·rename_i s d x i;simp only [i]at hi;split at g
  ·rename_i e j u len D p z;simp only [z,AC]at hi;subst hi;simp only [hf]at g;split at g
   ·simp_all
   ·cases g
  ·cases g
 ·rename_i t x lo K V i;simp only [i]at hi;split at g
  ·rename_i n e j u p z;simp only [z,AC]at hi;subst hi;rw [hf]at g;simp at g
  ·cases g
 ·rename_i t x k X i;simp only [i]at hi;split at g
  ·rename_i T O m L D p z;rw [p]at hi
   cases m with
   |map j=>
    simp only [AC]at hi;subst hi;simp only [hf]at g;split at g
    ·simp_all
    ·cases g
   |_=>cases hi
  ·cases g
 ·rename_i A l _ i;simp only [i]at hi;split at g
  ·rename_i t j D p;simp only [p,AC]at hi;subst hi;rw [hf]at g;simp at g
  ·cases g
 ·cases g
structure FF where
 tm:Nat->Option TV
 lv:Nat->Option (Y14)
def Fr.ff(g:Fr):FF:=⟨g.tm.get,g.lv.get⟩
def FF.put(F:FF)(d:Option Tmp)(v:Option TV):FF:=
 match d with
 |some t=> {F with tm:=fun k=>if k=t then v else F.tm k }
 |none=>F
def FF.lset(F:FF)(s:Nat)(cs:Y14):FF:= {F with lv:=fun k=>if k=s then some cs else F.lv k }
def FF.clr(F:FF)(s:Nat):FF:= {F with tm:=fun k=>match F.tm k with|some x=>if qA s x then some x else none|none=>none }
def FF.app(F:FF)(d:Option Tmp)(e:Ef):FF:=
 match e.loc with
 |some (s,cs)=>if e.box then((F.clr s).lset s cs).put d e.v else(F.put d e.v).lset s cs
 |none=>F.put d e.v
theorem Jj(g:Fr)(d:Option Tmp)(v:Option TV):(g.put d v).ff=g.ff.put d v:=by
 cases d with
 |none=>rfl
 |some t=>
  simp only [Fr.put,Fr.ff,FF.put]
  congr 1
  funext k;rw [PT.get_set]
theorem Zf(g:Fr)(d:Option Tmp)(e:Ef):(g.app d e).ff=g.ff.app d e:=by
 unfold Fr.app FF.app
 cases e.loc with
 |none=>exact Jj _ _ _
 |some q=>
  obtain⟨s,cs⟩:=q;simp only;split
  ·rw [Jj]
   congr 1
   simp only [Fr.box,Fr.ff,FF.lset,FF.clr]
   congr 1
   ·funext k;rw [PT.get_filt];cases g.tm.get k<;>rfl
   ·funext k;rw [PT.get_set]
  ·have i:=Jj g d e.v;have h2:(g.put d e.v).lv=g.lv:=by cases d<;>rfl
   have j:(Fr.ff {g.put d e.v with lv:=g.lv.set s (some cs) })=(Fr.ff (g.put d e.v)).lset s cs:=by
    simp only [Fr.ff,FF.lset]
    congr 1
    funext k;rw [PT.get_set,h2]
   rw [j,i]
section
variable (E:Env) (f:FuncId) (cf:FuncId->Y14->Heap->Option (IV×Heap)) (ops:List Oper) (bef:Nat->Nat)
def Co(g:List Nat)(rs:Nat->Y10)(draw:Bool):List (Oper×Nat)->Met->Pd->FF->Heap->FF->Heap->Prop
 | [],_,_,F,h,F',h'=>F=F'/\h=h'
 | (o,i)::r,m,pd,F,h,F',h'=> ∃e,dK E f cf ops draw (rs i) o F.tm F.lv h=some e/\(draw=true->okB g rs m pd (bef i) (iX o (bD E F.tm)) e=true)/\Co g rs draw r (m.add e.c i) (kY E o (bD E F.tm) e i pd) (F.app o.dst e) e.h F' h'
theorem Qi{u:List Nat}{rs:Nat->Y10}{draw:Bool} : ∀{l:List (Oper×Nat)}{m:Met}{p:Pd}{j g:Fr}{h h':Heap},kZ E f cf ops draw bef u rs l m p j h=some (g,h')->Co E f cf ops bef u rs draw l m p j.ff h g.ff h'
 | [],m,p,j,g,h,h',hr=>by simp [kZ]at hr;obtain⟨rfl,rfl⟩:=hr;exact⟨rfl,rfl⟩
 | (o,i)::r,m,p,j,g,h,h',hr=>by
  unfold kZ at hr;split at hr
  case h_2=>simp at hr
  rename_i e z;split at hr
  case isFalse=>simp at hr
  rename_i A;refine⟨e,z,fun hd=>by subst hd;simpa [Fr.ff]using A,?_⟩;rw [<-Zf];exact Qi hr
end
mutual
theorem S5: ∀{a b:IV},Iv a b=true->a=b:=by
 intro a b h
 cases a<;>cases b<;>simp only [Iv,AF,decide_eq_true_eq,beq_iff_eq,BA]at h
 all_goals first
  |rfl
  | (subst h;rfl)
  | (obtain⟨h1,h2⟩:=h;have e1:=AS h1;have e2:=AS h2;subst e1;subst e2;rfl)
  | (obtain⟨h1,h2⟩:=h;subst h1;subst h2;rfl)
  | (have e1:=AS h;subst e1;rfl)
  | (have e1:=nF h;subst e1;rfl)
  | (obtain⟨h1,h2⟩:=h;have e1:=AS h1;have e2:=nF h2;subst e1;subst e2;rfl)
  | (obtain⟨h1,h2,h3⟩:=h;have e2:=nF h2;have e3:=nF h3;subst h1;subst e2;subst e3;rfl)
  | (obtain⟨h1,h2⟩:=h;have e2:=S5 h2;subst h1;subst e2;rfl)
  | (obtain⟨h1,h2,h3,h4⟩:=h;have e1:=AS h1;have e2:=AS h2;have e3:=AS h3;have e4:=AS h4;subst e1;subst e2;subst e3;subst e4;rfl)
  | (obtain⟨h1,h2,h3,h4,h5⟩:=h;have e2:=AS h2;have e3:=AS h3;have e4:=AS h4;have e5:=nF h5;subst h1;subst e2;subst e3;subst e4;subst e5;rfl)
theorem nF: ∀{a b:Y14},mV a b=true->a=b:=by
 intro a b h
 cases a with
 |nil=>cases b with
  |nil=>rfl
  |cons y r=>simp [mV]at h
 |cons x l=>cases b with
  |nil=>simp [mV]at h
  |cons y r=>
   simp only [mV,AF]at h;rw [S5 h.1,nF h.2]
end
mutual
theorem wK: ∀a:IV,Iv a a=true:=by
 intro a;have nb: ∀n:Nat,Nat.beq n n=true:=fun n=>IJ n
 cases a<;>simp only [Iv,nb,decide_true,IG,beq_self_eq_true,BN]
 all_goals first
  |exact oM _
  | (rw [oM,oM];rfl)
  |exact wK _
theorem oM: ∀a:Y14,mV a a=true:=by
 intro a
 cases a with
 |nil=>rfl
 |cons x r=>simp only [mV,wK x,oM r,IG]
end
theorem b3W{a b:TV}(h:b3B a b=true):a=b:=by
 unfold b3B at h;split at h
 ·rw [S5 h]
 ·cases h
def iD:Cls->Cls->Bool
 | .l,.s=>true
 | .s,.l=>true
 | .s,.s=>true
 | .r,.e=>true
 | .e,.r=>true
 | .e,.e=>true
 | .a,.e=>true
 | .e,.a=>true
 |_,_=>false
section
variable {E:Env} {f:FuncId} {cf:FuncId->Y14->Heap->Option (IV×Heap)} {ops:List Oper}
theorem L4{o:Oper}{ev:Operand->Option TV}{lv:Nat->Option (Y14)}{v:TV}(h:fR E o ev lv=some v): ∃t a s g,o.op= .load t a/\ev a=some (.l s g):=by
 unfold fR at h;split at h
 ·rename_i t a i;split at h
  ·rename_i s g ha;exact⟨t,a,s,g,i,ha⟩
  ·simp at h
 ·simp at h
theorem sX{o:Oper}{ev:Operand->Option TV}{lv:Nat->Option (Y14)}{v:Nat×Y14}(h:gJ E o ev lv=some v): ∃t a x s g,o.op= .store t a x/\ev a=some (.l s g):=by
 unfold gJ at h;split at h
 ·rename_i t a x i;split at h
  ·rename_i s g p ha j;exact⟨t,a,x,s,g,i,ha⟩
  ·simp at h
 ·simp at h
theorem lE{o:Oper}{ev:Operand->Option TV}{h:Heap}(j:(dO E o ev h).isSome\/ (fZ E f o ev h).isSome\/ (dM o ev).isSome)(lv:Nat->Option (Y14)):fR E o ev lv=none/\gJ E o ev lv=none:=by
 constructor
 ·cases hl:fR E o ev lv with
  |none=>rfl
  |some v=>
   obtain⟨t,a,s,i,g,ha⟩:=L4 hl;simp [dO,fZ,dM,g,ha]at j
 ·cases hl:gJ E o ev lv with
  |none=>rfl
  |some v=>
   obtain⟨t,a,x,s,i,g,ha⟩:=sX hl;simp [dO,fZ,dM,g,ha]at j
theorem Vz{o:Oper}{ev:Operand->Option TV}{h:Heap}(j:(fZ E f o ev h).isSome\/ (dM o ev).isSome)(h2:Heap):dO E o ev h2=none:=by
 cases hr:dO E o ev h2 with
 |none=>rfl
 |some v=>
  unfold dO at hr
  cases hop:o.op<;>simp only [hop]at hr<;>try (simp at hr;done)
  case load t a=>simp [fZ,dM,hop]at j
  case convert s d x=>
   split at hr
   ·rename_i e id A len u l z;simp [fZ,dM,hop,u,l,z]at j
   ·simp at hr
  case slice t x lo hi mx=>simp [fZ,dM,hop]at j
  case lookup t x k ok=>simp [fZ,dM,hop]at j
  case call c=>
   obtain⟨g,p,i⟩:=c
   cases g with
   |value x=>simp at hr
   |invoke x n=>simp at hr
   |builtin b=>cases b<;>simp at hr<;>simp [fZ,dM,hop]at j
theorem Zg{o:Oper}{j:Nat->Option TV}{x:Operand}{s i:Nat}(p:x∈o.op.operands)(h:bD E j x=some (.l s i)): ∃t,t∈o.looksAt ops.toArray/\j t=some (.l s i):=by
 cases x with
 |tmp t=>
  refine⟨t,?_,h⟩;simp only [Oper.looksAt,CB,GU];exact .inl ⟨.tmp t,by simpa using p,rfl⟩
 |const v=>
  simp only [bD]at h;obtain⟨y,_,h2⟩:=AD.1 h
  cases h2
 |global g=>
  simp only [bD]at h;obtain⟨y,_,h2⟩:=AD.1 h
  cases h2
 |func g=>simp [bD]at h
theorem b3X{o:Oper}{ev:Operand->Option TV}{lv:Nat->Option (Y14)}{v:TV}(h:fR E o ev lv=some v): ∃x∈o.op.operands,∃s g,ev x=some (.l s g)/\(∃cs,lv s=some cs)/\∀lv2,lv2 s=lv s->fR E o ev lv2=some v:=by
 unfold fR at h;split at h
 ·rename_i t a i;split at h
  ·rename_i s g ha;refine⟨a,by simp [i,Op.operands],s,g,ha,?_,fun lv2 e=>?_⟩
   ·split at h
    ·rename_i cs j;exact⟨cs,j⟩
    ·simp at h
   ·simp only [fR,i,ha,e];exact h
  ·simp at h
 ·simp at h
theorem b3Y{o:Oper}{ev:Operand->Option TV}{lv:Nat->Option (Y14)}{q:Nat×Y14}(h:gJ E o ev lv=some q): ∃x∈o.op.operands,∃g,ev x=some (.l q.1 g)/\(∃cs,lv q.1=some cs)/\∀lv2,lv2 q.1=lv q.1->gJ E o ev lv2=some q:=by
 unfold gJ at h;split at h
 ·rename_i t a x i;split at h
  ·rename_i s g v ha p;split at h
   ·rename_i cs j;obtain⟨y,u,h2⟩:=AD.1 h;subst h2;refine⟨a,by simp [i,Op.operands],g,ha,⟨cs,j⟩,fun lv2 e=>?_⟩;simp only at e;simp only [gJ,i,ha,p,e,j];exact h
   ·simp at h
  ·simp at h
 ·simp at h
theorem Wa{o:Oper}{ev:Operand->Option TV}{lv lv2:Nat->Option (Y14)}{q:Nat×Y14}(h:gJ E o ev lv=some q):fR E o ev lv2=none:=by
 obtain⟨t,a,x,s,i,g,ha⟩:=sX h;simp [fR,g]
def pL(E:Env)(cf:FuncId->Y14->Heap->Option (IV×Heap)):Prop:= ∀g,E.iso g=true-> ∀xs h v h',cf g xs h=some (v,h')->h'=h/\∀h2,cf g xs h2=some (v,h2)
theorem Wc{o:Oper}{ev:Operand->Option TV}(i:(dM o ev).isSome)(h2:Heap):fZ E f o ev h2=none:=by
 unfold dM at i;split at i
 ·rename_i x j _ g;simp [fZ,g]
 ·simp at i
theorem L5(L:pL E cf){o:Oper}{j:Nat->Option TV}{lv:Nat->Option (Y14)}{h:Heap}{e:Ef}(i:sS E f cf ops true o j lv h=some e):
  e.box=false/\
  (e.c= .p->e.loc=none/\e.h=h/\∀lv2 h2,sS E f cf ops true o j lv2 h2=some {e with h:=h2 })/\
  (e.c= .l->e.loc=none/\e.h=h/\∃t s u,t∈o.looksAt ops.toArray/\j t=some (.l s u)/\(∃cs,lv s=some cs)/\∀lv2 h2,lv2 s=lv s->sS E f cf ops true o j lv2 h2=some {e with h:=h2 })/\
  (e.c= .s->e.h=h/\∃t s u cs,t∈o.looksAt ops.toArray/\j t=some (.l s u)/\(∃cs,lv s=some cs)/\e.loc=some (s,cs)/\∀lv2 h2,lv2 s=lv s->sS E f cf ops true o j lv2 h2=some {e with h:=h2 })/\
  (e.c= .r->e.loc=none/\e.h=h/\∀lv2,sS E f cf ops true o j lv2 h=some e)/\
  (e.c= .e->e.loc=none/\∀lv2,sS E f cf ops true o j lv2 h=some e)/\
  (e.c= .b->e.h=h/\∃d cs,o.dst=some d/\e.loc=some (d,cs)/\lv d=none/\∀lv2 h2,lv2 d=none->sS E f cf ops true o j lv2 h2=some {e with h:=h2 }):=by
 unfold sS at i
 cases hw:dJ ops j o with
 |none=>simp [hw]at i
 |some b=>
  simp only [hw]at i
  cases b with
  |false=>
   simp only [AC]at i;subst i;refine⟨rfl,fun _=>⟨rfl,rfl,fun lv2 h2=>by simp [sS,hw]⟩,?_,?_,?_,?_,?_⟩<;>intro hc<;>simp at hc
  |true=>
   simp only at i;have hE: ∀lv2 h2,sS E f cf ops true o j lv2 h2=dX E f cf true o (bD E j) lv2 h2:=fun lv2 h2=>by simp [sS,hw]
   simp only [hE];unfold dX at i⊢
   cases hp:eA E f o (bD E j)with
   |some q=>
    obtain⟨v,bx⟩:=q;simp only [hp]at i⊢;split at i
    ·rename_i cs d hd;simp only [if_true]at i;split at i
     case h_2=>cases i
     rename_i Z;simp only [AC]at i;subst i;refine⟨rfl,?_,?_,?_,?_,?_,fun _=>⟨rfl,d,cs,hd,rfl,Z,fun lv2 h2 e=>by simp [e]⟩⟩<;>intro hc<;>simp at hc
    ·rename_i a1;simp only [AC]at i;subst i;refine⟨rfl,fun _=>⟨rfl,rfl,fun lv2 h2=>rfl⟩,?_,?_,?_,?_,?_⟩<;>intro hc<;>simp at hc
    ·simp at i
   |none=>
    simp only [hp]at i⊢
    cases hl:fR E o (bD E j) lv with
    |some v=>
     simp only [hl,AC]at i;subst i;obtain⟨x,hx,s,u,O,h2,V⟩:=b3X hl;obtain⟨t,A,D⟩:=Zg (ops:=ops) hx O;refine⟨rfl,?_,fun _=>⟨rfl,rfl,t,s,u,A,D,h2,fun lv2 T e=>by simp only [V lv2 e]⟩,?_,?_,?_,?_⟩<;>intro hc<;>simp at hc
    |none=>
     simp only [hl]at i
     cases hs:gJ E o (bD E j) lv with
     |some q=>
      obtain⟨x,hx,u,O,h2,V⟩:=b3Y hs;obtain⟨t,A,D⟩:=Zg (ops:=ops) hx O;have Y:=fun lv2=>Wa (lv2:=lv2) hs
      obtain⟨s,cs⟩:=q;simp only [hs,AC]at i;subst i;refine⟨rfl,?_,?_,fun _=>⟨rfl,t,s,u,cs,A,D,h2,rfl,fun lv2 T e=>by simp only [Y lv2,V lv2 e]⟩,?_,?_,?_⟩<;>intro hc<;>simp at hc
     |none=>
      simp only [hs]at i
      cases hr:dO E o (bD E j) h with
      |some v=>
       simp only [hr,AC]at i;subst i;have z:=fun lv2=>lE (E:=E) (f:=f) (o:=o) (ev:=bD E j) (h:=h) (.inl (by simp [hr])) lv2
       refine⟨rfl,?_,?_,?_,fun _=>⟨rfl,rfl,fun lv2=>by simp only [(z lv2).1,(z lv2).2,hr]⟩,?_,?_⟩<;>intro hc<;>simp at hc
      |none=>
       simp only [hr]at i
       cases hee:fZ E f o (bD E j) h with
       |some q=>
        obtain⟨v,h'⟩:=q;simp only [hee,AC]at i;subst i;have z:=fun lv2=>lE (E:=E) (f:=f) (o:=o) (ev:=bD E j) (h:=h) (.inr (.inl (by simp [hee]))) lv2
        refine⟨rfl,?_,?_,?_,?_,fun _=>⟨rfl,fun lv2=>by simp only [(z lv2).1,(z lv2).2,hr,hee]⟩,?_⟩<;>intro hc<;>simp at hc
       |none=>
        simp only [hee]at i
        cases hcl:dM o (bD E j)with
        |none=>simp [hcl]at i
        |some q=>
         obtain⟨g,xs⟩:=q;simp only [hcl]at i;split at i
         case h_2=>simp at i
         rename_i v h' K;simp only [AC]at i
         cases hiso:E.iso g with
         |true=>
          simp only [hiso,oH]at i;subst i;obtain⟨rfl,G⟩:=L g hiso _ _ _ _ K;have z:=fun lv2=>lE (E:=E) (f:=f) (o:=o) (ev:=bD E j) (h:=h') (.inr (.inr (by simp [hcl]))) lv2
          have a0:=Vz (E:=E) (f:=f) (o:=o) (ev:=bD E j) (h:=h') (.inr (by simp [hcl]));have X:=Wc (E:=E) (f:=f) (o:=o) (ev:=bD E j) (by simp [hcl]);refine⟨rfl,fun _=>⟨rfl,rfl,fun lv2 h2=>by simp only [(z lv2).1,(z lv2).2,a0 h2,X h2,hcl,G h2,hiso,oH]⟩,?_,?_,?_,?_,?_⟩<;>intro hc<;>simp at hc
         |false=>
         simp only [hiso,oH]at i;subst i;have z:=fun lv2=>lE (E:=E) (f:=f) (o:=o) (ev:=bD E j) (h:=h) (.inr (.inr (by simp [hcl]))) lv2
         refine⟨rfl,?_,?_,?_,?_,fun _=>⟨rfl,fun lv2=>by simp only [(z lv2).1,(z lv2).2,hr,hee,hcl,K,hiso,oH]⟩,?_⟩<;>intro hc<;>simp at hc
def qI(F:FF):Prop:= ∀k s off,F.tm k=some (.l s off)-> ∃cs,F.lv s=some cs
theorem yF{o:Oper}{i g:Nat->Option TV}(h: ∀t∈o.looksAt ops.toArray,i t=g t):dJ ops i o=dJ ops g o:=by
 unfold dJ
 cases hg:o.guard with
 |none=>rfl
 |some q=>
  obtain⟨j,b⟩:=q;simp only
  cases hd:(ops[j]?).bind (·.dst)with
  |none=>rfl
  |some d=>
   have:d∈o.looksAt ops.toArray:=by
    simp only [Oper.looksAt,hg,EC,hd];simp
   simp only [h d this]
theorem jC{o:Oper}{j i:Nat->Option TV}(h: ∀t∈o.looksAt ops.toArray,j t=i t): ∀x∈o.op.operands,bD E j x=bD E i x:=by
 intro x l
 cases x with
 |tmp t=>
  simp only [bD];refine h t ?_;simp only [Oper.looksAt,CB,GU];exact .inl ⟨.tmp t,by simpa using l,rfl⟩
 |const v=>rfl
 |global g=>rfl
 |func g=>rfl
theorem Zh{draw:Bool}{o:Oper}{l i:Nat->Option TV}{lv:Nat->Option (Y14)}{h:Heap}(j: ∀t∈o.looksAt ops.toArray,l t=i t):sS E f cf ops draw o l lv h=sS E f cf ops draw o i lv h:=by
 have g:=jC (E:=E) j;simp only [sS,yF j,dX,Vu (E:=E) (f:=f) g,Vv (E:=E) (lv:=lv) (lv':=lv) g (fun _=>rfl),Vw (E:=E) (lv:=lv) (lv':=lv) g (fun _=>rfl),wH (E:=E) (h:=h) g,Vx (E:=E) (f:=f) (h:=h) g,S4 g]
theorem FF.ext'{F G:FF}(j: ∀k,F.tm k=G.tm k)(h2: ∀k,F.lv k=G.lv k):F=G:=by
 obtain⟨a,b⟩:=F;obtain⟨c,d⟩:=G;have g:a=c:=funext j;have i:b=d:=funext h2;subst g;subst i;rfl
theorem fH{F:FF}{d:Option Tmp}{e:Ef}(g:e.box=false)(k:Nat):(F.app d e).tm k=if d=some k then e.v else F.tm k:=by
 unfold FF.app
 cases e.loc with
 |none=>
  cases d with
  |none=>simp [FF.put]
  |some t=>
   simp only [FF.put,AC]
   by_cases h:k=t
   ·simp [h]
   ·simp [h,show¬t=k from fun e=>h e.symm]
 |some q=>
  simp only [g,BA,if_false,FF.lset]
  cases d with
  |none=>simp [FF.put]
  |some t=>
   simp only [FF.put,AC]
   by_cases h:k=t
   ·simp [h]
   ·simp [h,show¬t=k from fun e=>h e.symm]
theorem gM{F:FF}{d:Option Tmp}{e:Ef}(g:e.box=false)(k:Nat):(F.app d e).lv k=match e.loc with|some (s,cs)=>if k=s then some cs else F.lv k|none=>F.lv k:=by
 unfold FF.app
 cases hl:e.loc with
 |none=>cases d<;>rfl
 |some q=>
  simp only [g,BA,if_false,FF.lset]
  cases d<;>rfl
theorem qI.app(z:pL E cf){o:Oper}{F:FF}{h:Heap}{e:Ef}(D:qI F)(i:sS E f cf ops true o F.tm F.lv h=some e):qI (F.app o.dst e):=by
 have G:=(L5 z i).1;have u: ∀s,(∃cs,F.lv s=some cs)-> ∃cs,(F.app o.dst e).lv s=some cs:=by
  rintro s ⟨cs,hs⟩;rw [gM G]
  cases e.loc with
  |none=>exact⟨cs,hs⟩
  |some q=>
   obtain⟨O,cs'⟩:=q;simp only
   by_cases l:s=O
   ·exact⟨cs',by rw [if_pos l]⟩
   ·exact⟨cs,by rw [if_neg l];exact hs⟩
 intro k s A l;rw [fH G]at l;split at l
 case isFalse=>exact u s (D k s A l)
 rename_i hd;unfold sS at i
 cases hw:dJ ops F.tm o with
 |none=>simp [hw]at i
 |some b=>
  simp only [hw]at i
  cases b with
  |false=>simp only [AC]at i;subst i;simp at l
  |true=>
   simp only at i;unfold dX at i
   cases hp:eA E f o (bD E F.tm)with
   |some q=>
    obtain⟨v,bx⟩:=q;simp only [hp]at i
    cases bx with
    |none=>
     simp only [AC]at i;subst i;simp only [AC]at l;subst l;obtain⟨x,L,p⟩:=Yr hp
     cases x with
     |tmp t=>exact u s (D t s L p)
     |const c=>simp only [bD]at p;obtain⟨y,_,h2⟩:=AD.1 p;cases h2
     |global g=>simp only [bD]at p;obtain⟨y,_,h2⟩:=AD.1 p;cases h2
     |func g=>simp [bD]at p
    |some cs=>
     simp only [hd,if_true]at i;split at i
     case h_2=>cases i
     rename_i u;simp only [AC]at i;subst i;simp only [AC]at l;subst l;obtain rfl:=Ys hp hd;refine⟨cs,?_⟩;rw [gM rfl];simp
   |none=>
    simp only [hp]at i;exfalso;have K: ∀tv,e.v=some tv-> ∃x,tv= .v x:=by
     intro tv j
     cases hl:fR E o (bD E F.tm) F.lv with
     |some v=>
      simp only [hl,AC]at i;subst i;simp only [AC]at j;subst j;unfold fR at hl
      repeat' split at hl
      all_goals first| (cases hl;done)| (obtain⟨y,_,h2⟩:=AD.1 hl;exact⟨y,h2.symm⟩)
     |none=>
     simp only [hl]at i
     cases hs:gJ E o (bD E F.tm) F.lv with
     |some v=>simp only [hs,AC]at i;subst i;cases j
     |none=>
     simp only [hs]at i
     cases hr:dO E o (bD E F.tm) h with
     |some v=>
      simp only [hr,AC]at i;subst i;simp only [AC]at j;subst j;exact Yt hr
     |none=>
     simp only [hr]at i
     cases hee:fZ E f o (bD E F.tm) h with
     |some q=>
      simp only [hee,AC]at i;subst i;exact c2B hee j
     |none=>
     simp only [hee]at i;split at i
     ·split at i
      ·simp only [AC]at i;subst i;simp only [AC]at j;exact⟨_,j.symm⟩
      ·cases i
     ·cases i
    obtain⟨x,p⟩:=K _ l
    cases p
theorem Wd{draw:Bool}{o:Oper}{i:Nat->Option TV}{lv:Nat->Option (Y14)}{h:Heap}{e:Ef}(g:sS E f cf ops draw o i lv h=some e):e.c≠ .a:=by
 unfold sS at g;split at g
 ·cases g
 ·simp only [AC]at g;subst g;simp
 ·unfold dX at g
  repeat' split at g
  all_goals first
   | (cases g;done)
   | (simp only [AC]at g;subst g;first| (simp;done)| (simp only [oH];split<;>simp))
theorem wL{draw:Bool}{n:Nat}{o:Oper}{i:Nat->Option TV}{lv:Nat->Option (Y14)}{h:Heap}{e:Ef}(g:dK E f cf ops draw (some n) o i lv h=some e):
  e=⟨.p,some .u,none,false,h⟩ \/ (∃v,zJ E f o (bD E i) n=some (v,none)/\e=⟨.p,v,none,false,h⟩) \/ ∃v x,zJ E f o (bD E i) n=some (v,some x)/\h.get n= .free/\e=⟨.a,v,none,false,h.set n x⟩:=by
 unfold dK at g;simp only at g;split at g
 ·cases g
 ·simp only [AC]at g;exact .inl g.symm
 ·split at g
  ·rename_i v ha;simp only [AC]at g;exact .inr (.inl ⟨v,ha,g.symm⟩)
  ·rename_i v x ha;split at g
   ·rename_i hf;simp only [AC]at g;exact .inr (.inr ⟨v,x,ha,hf,g.symm⟩)
   ·cases g
  ·cases g
theorem rP{draw:Bool}{rs:Y10}{o:Oper}{j g:Nat->Option TV}{lv:Nat->Option (Y14)}{h:Heap}(i: ∀t∈o.looksAt ops.toArray,j t=g t):dK E f cf ops draw rs o j lv h=dK E f cf ops draw rs o g lv h:=by
 unfold dK
 rw [Zh i,yF i]
 cases rs with
 |none=>rfl
 |some n=>simp only [Ze (jC (E:=E) i)]
theorem A3{o:Oper}{i:Nat->Option TV}{lv:Nat->Option (Y14)}{h h2:Heap}{e:Ef}(g:sS E f cf ops true o i lv h=some e)(j:e.c= .r):
  ∃v,dO E o (bD E i) h=some v/\e.v=some v/\(dO E o (bD E i) h2=some v-> ∀lv2,sS E f cf ops true o i lv2 h2=some {e with h:=h2 }):=by
 unfold sS at g⊢
 cases hw:dJ ops i o with
 |none=>simp [hw]at g
 |some b=>
  cases b with
  |false=>
   simp only [hw,AC]at g;subst g;simp at j
  |true=>
   simp only [hw]at g⊢;unfold dX at g⊢
   cases hp:eA E f o (bD E i)with
   |some q=>
    obtain⟨l,bx⟩:=q;exfalso;simp only [hp]at g
    repeat' split at g
    all_goals first| (cases g;done)| (simp only [AC]at g;subst g;cases j)
   |none=>
    simp only [hp]at g⊢
    cases hl:fR E o (bD E i) lv with
    |some l=>
     simp only [hl,AC]at g;subst g
     cases j
    |none=>
     simp only [hl]at g⊢
     cases hs:gJ E o (bD E i) lv with
     |some q=>
      obtain⟨z,A⟩:=q;simp only [hs,AC]at g;subst g
      cases j
     |none=>
      simp only [hs]at g⊢
      cases hr1:dO E o (bD E i) h with
      |some l=>
       simp only [hr1,AC]at g;subst g;refine⟨l,rfl,rfl,fun u lv2=>?_⟩;have p:=lE (E:=E) (f:=f) (o:=o) (ev:=bD E i) (h:=h) (.inl (by simp [hr1])) lv2;simp only [p.1,p.2,u]
      |none=>
       exfalso;simp only [hr1]at g
       repeat' split at g
       all_goals first| (cases g;done)| (simp only [AC]at g;subst g;first| (cases j;done)| (simp only at j;unfold oH at j;split at j<;>cases j))
theorem iE(h:Heap)(i:Y10):lD h h i:=by cases i<;>simp [lD]
theorem eM(u:pL E cf){rs:Y10}{o:Oper}{i:Nat->Option TV}{lv:Nat->Option (Y14)}{h:Heap}{e:Ef}(g:dK E f cf ops true rs o i lv h=some e):
  e.box=false/\
  (e.c= .p->e.loc=none/\e.h=h/\∀lv2 h2,dK E f cf ops true rs o i lv2 h2=some {e with h:=h2 })/\
  (e.c= .l->e.loc=none/\e.h=h/\∃t s off,t∈o.looksAt ops.toArray/\i t=some (.l s off)/\(∃cs,lv s=some cs)/\∀lv2 h2,lv2 s=lv s->dK E f cf ops true rs o i lv2 h2=some {e with h:=h2 })/\
  (e.c= .s->e.h=h/\∃t s off cs,t∈o.looksAt ops.toArray/\i t=some (.l s off)/\(∃cs,lv s=some cs)/\e.loc=some (s,cs)/\∀lv2 h2,lv2 s=lv s->dK E f cf ops true rs o i lv2 h2=some {e with h:=h2 })/\
  (e.c= .r->e.loc=none/\e.h=h/\(∀lv2 h2,lD h h2 (iX o (bD E i))->dK E f cf ops true rs o i lv2 h2=some {e with h:=h2 })/\∀id,iX o (bD E i)=some id->h.get id≠ .free)/\
  (e.c= .e->e.loc=none/\∀lv2,dK E f cf ops true rs o i lv2 h=some e)/\
  (e.c= .b->e.h=h/\∃d cs,o.dst=some d/\e.loc=some (d,cs)/\lv d=none/\∀lv2 h2,lv2 d=none->dK E f cf ops true rs o i lv2 h2=some {e with h:=h2 })/\
  (e.c= .a->e.loc=none/\∃n x,rs=some n/\h.get n= .free/\x≠ .free/\e.h=h.set n x/\∀lv2 h2,h2.get n= .free->dK E f cf ops true rs o i lv2 h2=some {e with h:=h2.set n x }):=by
 cases rs with
 |none=>
  simp only [dK]at g⊢;have A:=Wd g;obtain⟨b,p,l,s,r,e',x⟩:=L5 u g;refine⟨b,p,l,s,fun j=>⟨(r j).1,(r j).2.1,fun lv2 h2 hs=>?_,fun id z=>?_⟩,e',x,fun j=>absurd j A⟩
  ·obtain⟨v,D,K,G⟩:=A3 (h2:=h2) g j;exact G (wJ D hs) lv2
  ·obtain⟨v,D,K,G⟩:=A3 (h2:=h) g j;exact Vy D z
 |some n=>
  unfold dK at g
  cases hw:dJ ops i o with
  |none=>simp [hw]at g
  |some b=>
   simp only [hw]at g
   cases b with
   |false=>
    simp only [AC]at g;subst g;refine⟨rfl,fun _=>⟨rfl,rfl,fun lv2 h2=>by simp [dK,hw]⟩,?_,?_,?_,?_,?_,?_⟩<;>intro j<;>simp at j
   |true=>
    simp only at g
    cases ha:zJ E f o (bD E i) n with
    |none=>simp [ha]at g
    |some q=>
     obtain⟨v,x⟩:=q;simp only [ha]at g
     cases x with
     |none=>
      simp only [AC]at g;subst g;refine⟨rfl,fun _=>⟨rfl,rfl,fun lv2 h2=>by simp [dK,hw,ha]⟩,?_,?_,?_,?_,?_,?_⟩<;>intro j<;>simp at j
     |some x=>
      simp only at g;split at g
      case h_2=>cases g
      rename_i hf;simp only [AC]at g;subst g;refine⟨rfl,?_,?_,?_,?_,?_,?_,fun _=>⟨rfl,n,x,rfl,hf,Yu ha,rfl,fun lv2 h2 h0=>by simp [dK,hw,ha,h0]⟩⟩<;>intro j<;>simp at j
theorem qI.appA(i:pL E cf){rs:Y10}{o:Oper}{F:FF}{h:Heap}{e:Ef}(p:qI F)(z:dK E f cf ops true rs o F.tm F.lv h=some e):qI (F.app o.dst e):=by
 cases rs with
 |none=>exact p.app i z
 |some n=>
  have g:e.loc=none/\e.box=false/\∀tv,e.v=some tv->(∃x,tv= .v x) \/tv= .u:=by
   rcases wL z with rfl| ⟨v,ha,rfl⟩| ⟨v,x,ha,_,rfl⟩
   ·exact⟨rfl,rfl,fun tv e=>by simp at e;exact .inr e.symm⟩
   ·exact⟨rfl,rfl,fun tv e=> .inl (b9W ha e)⟩
   ·exact⟨rfl,rfl,fun tv e=> .inl (b9W ha e)⟩
  intro k s l j;rw [fH g.2.1]at j;rw [gM g.2.1,g.1];split at j
  ·rcases g.2.2 _ j with⟨x,hx⟩|hx<;>cases hx
  ·exact p k s l j
theorem d5P(a0:pL E cf){ra ri:Y10}{a i:Oper}{F:FF}{h:Heap}{z T:Ef}(hA:qI F)(b5:Oper.apart ops.toArray a i=true)(ha:dK E f cf ops true ra a F.tm F.lv h=some z)
  (hi:dK E f cf ops true ri i (F.app a.dst z).tm (F.app a.dst z).lv z.h=some T) (hcl:iD z.c T.c=false)
  (hra:z.c= .a->T.c= .r-> ∀n id,ra=some n->iX i (bD E F.tm)=some id->n≠id):
  ∃g D,dK E f cf ops true ri i F.tm F.lv h=some g/\dK E f cf ops true ra a (F.app i.dst g).tm (F.app i.dst g).lv g.h=some D/\g.c=T.c/\D.c=z.c/\
   (F.app i.dst g).app a.dst D=(F.app a.dst z).app i.dst T/\D.h=T.h/\D.v=z.v:=by
 obtain⟨s1,s2,s3⟩:=Oper.apart_spec b5;obtain⟨ab,ap,al,a3,ar,ae,ax,aa⟩:=eM a0 ha;have b6:dK E f cf ops true ri i (F.app a.dst z).tm (F.app a.dst z).lv z.h=dK E f cf ops true ri i F.tm (F.app a.dst z).lv z.h:=by
  refine rP (fun t ht=>?_);rw [fH ab];rw [if_neg (fun e=>s1 t e ht)]
 rw [b6]at hi;obtain⟨ib,ip,il,c7,ir,ie,ix,ia⟩:=eM a0 hi;have c9:z.loc=none->(F.app a.dst z).lv=F.lv:=fun e=>funext fun k=>by rw [gM ab,e]
 have a2:z.loc=none\/ ∃s cs,z.loc=some (s,cs)/\((z.c= .s/\∃c0,F.lv s=some c0) \/ (z.c= .b/\a.dst=some s/\F.lv s=none)):=by
  cases hc:z.c with
  |p=>exact .inl (ap hc).1
  |l=>exact .inl (al hc).1
  |r=>exact .inl (ar hc).1
  |e=>exact .inl (ae hc).1
  |a=>exact .inl (aa hc).1
  |s=>
   obtain⟨_,t,s,O,cs,_,_,Z,h2,_⟩:=a3 hc;exact .inr ⟨s,cs,h2,.inl ⟨rfl,Z⟩⟩
  |b=>
   obtain⟨_,d,cs,Z,h2,h3,_⟩:=ax hc;exact .inr ⟨d,cs,h2,.inr ⟨rfl,Z,h3⟩⟩
 have a5: ∀k,(F.app a.dst z).lv k=match z.loc with|some (s,cs)=>if k=s then some cs else F.lv k|none=>F.lv k:=fun k=>gM ab k
 have b0: ∀s,(∃cs,F.lv s=some cs)->iD z.c .s=false->(F.app a.dst z).lv s=F.lv s:=by
  rintro s ⟨cs,hs⟩ a6;rw [a5];rcases a2 with L| ⟨s',cs',L,A|A⟩
  ·rw [L]
  ·rw [A.1]at a6;simp [iD]at a6
  ·rw [L];simp only;rw [if_neg];rintro rfl;rw [A.2.2]at hs;cases hs
 have b4: ∀t s O,t∈i.looksAt ops.toArray->F.tm t=some (.l s O)-> ∃cs,F.lv s=some cs:=fun t s O _ e=>hA t s O e
 obtain⟨g,e1,e2,e3,e4,e5⟩: ∃g,dK E f cf ops true ri i F.tm F.lv h=some g/\g.c=T.c/\g.v=T.v/\g.loc=T.loc/\((T.c= .e/\g.h=T.h/\z.h=h) \/ ((T.c≠ .e/\T.c≠ .a)/\g.h=h/\T.h=z.h) \/ (T.c= .a/\∃n x,x≠ .free/\h.get n= .free/\z.h.get n= .free/\g.h=h.set n x/\T.h=z.h.set n x)):=by
  cases hc:T.c with
  |p=>
   obtain⟨p1,K,G⟩:=ip hc;exact⟨_,G F.lv h,hc,rfl,rfl,.inr (.inl ⟨IP,rfl,K⟩)⟩
  |l=>
   obtain⟨p1,K,t,s,O,u,j,q3,G⟩:=il hc;have A:(F.app a.dst z).lv s=F.lv s:=by
    rw [a5];rcases a2 with L| ⟨s',cs',L,A|A⟩
    ·rw [L]
    ·rw [A.1,hc]at hcl;simp [iD]at hcl
    ·rw [L];simp only;rw [if_neg];rintro rfl;obtain⟨c0,h0⟩:=b4 t _ O u j;rw [A.2.2]at h0;cases h0
   exact⟨_,G F.lv h A.symm,hc,rfl,rfl,.inr (.inl ⟨IP,rfl,K⟩)⟩
  |s=>
   obtain⟨K,t,s,O,cs,u,j,q3,q4,G⟩:=c7 hc;have A:(F.app a.dst z).lv s=F.lv s:=b0 s (b4 t s O u j) (by rw [hc]at hcl;exact hcl);exact⟨_,G F.lv h A.symm,hc,rfl,rfl,.inr (.inl ⟨IP,rfl,K⟩)⟩
  |b=>
   obtain⟨K,d,cs,u,j,q3,G⟩:=ix hc;have A:F.lv d=none:=by
    rw [a5]at q3;rcases a2 with L| ⟨s',cs',L,A⟩
    ·rw [L]at q3;exact q3
    ·rw [L]at q3;simp only at q3;split at q3
     ·cases q3
     ·exact q3
   exact⟨_,G F.lv h A,hc,rfl,rfl,.inr (.inl ⟨IP,rfl,K⟩)⟩
  |r=>
   obtain⟨p1,K,G,p4⟩:=ir hc;have b7:lD z.h h (iX i (bD E F.tm)):=by
    cases hca:z.c with
    |p=>rw [(ap hca).2.1];exact iE _ _
    |l=>rw [(al hca).2.1];exact iE _ _
    |s=>rw [(a3 hca).1];exact iE _ _
    |b=>rw [(ax hca).1];exact iE _ _
    |r=>rw [(ar hca).2.1];exact iE _ _
    |e=>rw [hca,hc]at hcl;simp [iD]at hcl
    |a=>
     obtain⟨_,n,x,u,j,q3,q4,_⟩:=aa hca
     cases hid:iX i (bD E F.tm)with
     |none=>trivial
     |some id=>
      have:=hra hca hc n id u hid;show h.get id=z.h.get id;rw [q4,Heap.get_set,if_neg (fun e=>this e.symm)]
   exact⟨_,G F.lv h b7,hc,rfl,rfl,.inr (.inl ⟨IP,rfl,K⟩)⟩
  |a=>
   obtain⟨p1,n,x,u,j,q3,q4,G⟩:=ia hc;have hf:h.get n= .free:=by
    cases hca:z.c with
    |p=>rw [(ap hca).2.1]at j;exact j
    |l=>rw [(al hca).2.1]at j;exact j
    |s=>rw [(a3 hca).1]at j;exact j
    |b=>rw [(ax hca).1]at j;exact j
    |r=>rw [(ar hca).2.1]at j;exact j
    |e=>rw [hca,hc]at hcl;simp [iD]at hcl
    |a=>
     obtain⟨_,n',x',_,_,r3,r4,_⟩:=aa hca;rw [r4,Heap.get_set]at j;split at j
     ·exact absurd j r3
     ·exact j
   exact⟨_,G F.lv h hf,hc,rfl,rfl,.inr (.inr ⟨rfl,n,x,q3,hf,j,rfl,q4⟩)⟩
  |e=>
   obtain⟨p1,G⟩:=ie hc;have hh:z.h=h:=by
    cases hca:z.c with
    |p=>exact(ap hca).2.1
    |l=>exact(al hca).2.1
    |s=>exact(a3 hca).1
    |b=>exact(ax hca).1
    |r=>rw [hca,hc]at hcl;simp [iD]at hcl
    |e=>rw [hca,hc]at hcl;simp [iD]at hcl
    |a=>rw [hca,hc]at hcl;simp [iD]at hcl
   have:=G F.lv;rw [hh]at this;exact⟨_,this,hc,rfl,rfl,.inl ⟨rfl,rfl,hh⟩⟩
 obtain⟨a8,c3,c2,c6,c5,c1,c8,b9⟩:=eM a0 e1;have b3:dK E f cf ops true ra a (F.app i.dst g).tm (F.app i.dst g).lv g.h=dK E f cf ops true ra a F.tm (F.app i.dst g).lv g.h:=by
  refine rP (fun t ht=>?_);rw [fH a8];rw [if_neg (fun e=>s3 t e ht)]
 have Y:g.loc=none\/ ∃s cs,g.loc=some (s,cs)/\((g.c= .s/\∃c0,F.lv s=some c0) \/ (g.c= .b/\i.dst=some s/\F.lv s=none)):=by
  cases hc:g.c with
  |p=>exact .inl (c3 hc).1
  |l=>exact .inl (c2 hc).1
  |r=>exact .inl (c5 hc).1
  |e=>exact .inl (c1 hc).1
  |a=>exact .inl (b9 hc).1
  |s=>
   obtain⟨_,t,s,O,cs,_,_,Z,h2,_⟩:=c6 hc;exact .inr ⟨s,cs,h2,.inl ⟨rfl,Z⟩⟩
  |b=>
   obtain⟨_,d,cs,Z,h2,h3,_⟩:=c8 hc;exact .inr ⟨d,cs,h2,.inr ⟨rfl,Z,h3⟩⟩
 have a9: ∀k,(F.app i.dst g).lv k=match g.loc with|some (s,cs)=>if k=s then some cs else F.lv k|none=>F.lv k:=fun k=>gM a8 k
 have V:iD z.c g.c=false:=by rw [e2];exact hcl
 have a1: ∀s,(∃cs,F.lv s=some cs)->g.c≠ .s->(F.app i.dst g).lv s=F.lv s:=by
  rintro s ⟨cs,hs⟩ a6;rw [a9];rcases Y with L| ⟨s',cs',L,A|A⟩
  ·rw [L]
  ·exact absurd A.1 a6
  ·rw [L];simp only;rw [if_neg];rintro rfl;rw [A.2.2]at hs;cases hs
 obtain⟨D,g1,g2,g3,g4,g5⟩: ∃D,dK E f cf ops true ra a F.tm (F.app i.dst g).lv g.h=some D/\D.c=z.c/\D.v=z.v/\D.loc=z.loc/\D.h=T.h:=by
  cases hc:z.c with
  |p=>
   obtain⟨p1,K,G⟩:=ap hc;refine⟨_,G _ _,hc,rfl,rfl,?_⟩;rcases e5 with⟨_,u,_⟩| ⟨_,u,j⟩| ⟨_,n,x,_,_,_,u,j⟩
   ·exact u
   ·show g.h=_;rw [u,j,K]
   ·show g.h=_;rw [u,j,K]
  |l=>
   obtain⟨p1,K,t,s,O,t1,t2,t3,G⟩:=al hc;refine⟨_,G _ _ (a1 s t3 (fun e=>by rw [hc,e]at V;simp [iD]at V)),hc,rfl,rfl,?_⟩;rcases e5 with⟨_,u,_⟩| ⟨_,u,j⟩| ⟨_,n,x,_,_,_,u,j⟩
   ·exact u
   ·show g.h=_;rw [u,j,K]
   ·show g.h=_;rw [u,j,K]
  |s=>
   obtain⟨K,t,s,O,cs,t1,t2,t3,t4,G⟩:=a3 hc;refine⟨_,G _ _ (a1 s t3 (fun e=>by rw [hc,e]at V;simp [iD]at V)),hc,rfl,rfl,?_⟩;rcases e5 with⟨_,u,_⟩| ⟨_,u,j⟩| ⟨_,n,x,_,_,_,u,j⟩
   ·exact u
   ·show g.h=_;rw [u,j,K]
   ·show g.h=_;rw [u,j,K]
  |b=>
   obtain⟨K,d,cs,t1,t2,t3,G⟩:=ax hc;have A:(F.app i.dst g).lv d=none:=by
    rw [a9];rcases Y with L| ⟨s',cs',L,A|A⟩
    ·rw [L];exact t3
    ·rw [L];simp only;rw [if_neg]
     ·exact t3
     ·rintro rfl;obtain⟨c0,b2⟩:=A.2;rw [t3]at b2;cases b2
    ·rw [L];simp only;rw [if_neg]
     ·exact t3
     ·rintro rfl;exact s2 _ t1 A.2.1
   refine⟨_,G _ _ A,hc,rfl,rfl,?_⟩;rcases e5 with⟨_,u,_⟩| ⟨_,u,j⟩| ⟨_,n,x,_,_,_,u,j⟩
   ·exact u
   ·show g.h=_;rw [u,j,K]
   ·show g.h=_;rw [u,j,K]
  |r=>
   obtain⟨p1,K,G,p4⟩:=ar hc;rcases e5 with⟨q0,u,_⟩| ⟨_,u,j⟩| ⟨_,n,x,_,q5,_,u,j⟩
   ·rw [hc,q0]at hcl;simp [iD]at hcl
   ·rw [u];exact⟨_,G _ h (iE _ _),hc,rfl,rfl,by show h=T.h;rw [j,K]⟩
   ·rw [u];refine⟨_,G _ _ ?_,hc,rfl,rfl,by show h.set n x=T.h;rw [j,K]⟩
    cases hid:iX a (bD E F.tm)with
    |none=>trivial
    |some id=>
     have:=p4 id hid;show(h.set n x).get id=h.get id;rw [Heap.get_set,if_neg (fun e=>this (by rw [e];exact q5))]
  |e=>
   obtain⟨p1,G⟩:=ae hc;rcases e5 with⟨q0,u,_⟩| ⟨_,u,j⟩| ⟨q0,_⟩
   ·rw [hc,q0]at hcl;simp [iD]at hcl
   ·rw [u];exact⟨_,G _,hc,rfl,rfl,j.symm⟩
   ·rw [hc,q0]at hcl;simp [iD]at hcl
  |a=>
   obtain⟨p1,n',x',K,G,p4,p5,p6⟩:=aa hc;rcases e5 with⟨q0,u,_⟩| ⟨_,u,j⟩| ⟨_,n,x,q4,q5,q6,u,j⟩
   ·rw [hc,q0]at hcl;simp [iD]at hcl
   ·rw [u];exact⟨_,p6 _ h G,hc,rfl,rfl,by show h.set n' x'=T.h;rw [j,p5]⟩
   ·have a7:n'≠n:=by
     rintro rfl;rw [p5,Heap.get_set,if_pos rfl]at q6;exact p4 q6
    rw [u];refine⟨_,p6 _ (h.set n x) (by rw [Heap.get_set,if_neg a7];exact G),hc,rfl,rfl,?_⟩;show(h.set n x).set n' x'=T.h;rw [j,p5,Heap.set_comm _ _ _ a7]
 rw [<-b3]at g1;have b1:D.box=false:=(eM a0 g1).1;refine⟨g,D,e1,g1,e2,g2,?_,g5,g3⟩;refine FF.ext' (fun k=>?_) (fun k=>?_)
 ·rw [fH b1,fH a8,fH ib,fH ab,e3,g3]
  by_cases Z:a.dst=some k
  ·have h2:i.dst≠some k:=s2 k Z;simp [Z,h2]
  ·simp [Z]
 ·rw [gM b1,gM a8,gM ib,gM ab,e4,g4];rcases a2 with L| ⟨s,cs,L,A⟩
  ·rw [L]
  ·rcases Y with a4| ⟨s',cs',a4,X⟩
   ·rw [e4]at a4;rw [a4]
   ·rw [e4]at a4;rw [L,a4];simp only;have a7:s≠s':=by
     rintro rfl;rcases A with A|A<;>rcases X with X|X
     ·rw [A.1,X.1]at V;simp [iD]at V
     ·obtain⟨c0,h0⟩:=A.2;rw [X.2.2]at h0;cases h0
     ·obtain⟨c0,h0⟩:=X.2;rw [A.2.2]at h0;cases h0
     ·exact s2 _ A.2.1 X.2.1
    by_cases Z:k=s
    ·subst Z;simp [a7]
    ·simp [Z]
theorem Wf{rs:Y10}{o:Oper}{i:Nat->Option TV}{lv:Nat->Option (Y14)}{h h2:Heap}{e:Ef}(l:dK E f cf ops true rs o i lv h=some e)(j:e.c= .r){v:TV}(p:dO E o (bD E i) h2=some v)(g:e.v=some v):
  dK E f cf ops true rs o i lv h2=some {e with h:=h2 } :=by
 cases rs with
 |none=>
  obtain⟨A,_,u,z⟩:=A3 (h2:=h2) l j;rw [u]at g;simp only [AC]at g;subst g;exact z p lv
 |some n=>
  exfalso;rcases wL l with rfl| ⟨v,ha,rfl⟩| ⟨v,x,ha,_,rfl⟩<;>cases j
theorem d0L(l:pL E cf){A D:Y10}{a i:Oper}{F:FF}{h:Heap}{j g:Ef}(L:Oper.apart ops.toArray a i=true)(ha:dK E f cf ops true A a F.tm F.lv h=some j)
  (hi:dK E f cf ops true D i (F.app a.dst j).tm (F.app a.dst j).lv j.h=some g) (hac:j.c= .r) (hic:g.c= .e) (hsame:dK E f cf ops true A a F.tm F.lv g.h=some {j with h:=g.h }):
  dK E f cf ops true D i F.tm F.lv h=some g/\dK E f cf ops true A a (F.app i.dst g).tm (F.app i.dst g).lv g.h=some {j with h:=g.h } /\
   (F.app i.dst g).app a.dst {j with h:=g.h } =(F.app a.dst j).app i.dst g:=by
 obtain⟨s1,s2,s3⟩:=Oper.apart_spec L;obtain⟨p,ap,al,Z,ar,ae,ax,aa⟩:=eM l ha;obtain⟨G,K,_,_⟩:=ar hac;have V:(F.app a.dst j).lv=F.lv:=funext fun k=>by rw [gM p,G]
 have T:dK E f cf ops true D i (F.app a.dst j).tm (F.app a.dst j).lv j.h=dK E f cf ops true D i F.tm (F.app a.dst j).lv j.h:=by
  refine rP (fun t Y=>?_);rw [fH p];rw [if_neg (fun e=>s1 t e Y)]
 rw [T,V,K]at hi;obtain⟨u,ip,il,a0,ir,ie,ix,ia⟩:=eM l hi;obtain⟨z,_⟩:=ie hic;have X:(F.app i.dst g).lv=F.lv:=funext fun k=>by rw [gM u,z]
 have O:dK E f cf ops true A a (F.app i.dst g).tm (F.app i.dst g).lv g.h=dK E f cf ops true A a F.tm (F.app i.dst g).lv g.h:=by
  refine rP (fun t Y=>?_);rw [fH u];rw [if_neg (fun e=>s3 t e Y)]
 refine⟨hi,by rw [O,X];exact hsame,FF.ext' (fun k=>?_) (fun k=>?_)⟩
 ·rw [fH (e:= {j with h:=g.h }) p,fH u,fH u,fH p]
  by_cases h1:a.dst=some k
  ·have h2:i.dst≠some k:=s2 k h1;simp [h1,h2]
  ·simp [h1]
 ·rw [gM (e:= {j with h:=g.h }) p,gM u,gM u,gM p,z]
end
structure FR(M:Meta)(h:Heap)(w:World)(B n:Nat)(F:FF)(a:Act)(pb:Nat->Nat):Prop where
 size:n<=a.tmps.size
 tm: ∀t tv,F.tm t=some tv->TR M pb tv (a.tmps.getD t undef)
 loc: ∀s cs,F.lv s=some cs->B<=pb s/\¬Wr M h (pb s)/\(∀o,M.im (pb s) o=none)/\∃rc el fz,w.heap[pb s]?=some (.cells rc el fz)/\(∀i,i<rc.size->w.frozen? ⟨pb s,i,none⟩=false)/\eB M cs rc.toList
 one: ∀s s' cs cs',F.lv s=some cs->F.lv s'=some cs'->pb s=pb s'->s=s'
 addr: ∀k s off,F.tm k=some (.l s off)-> ∃cs,F.lv s=some cs
def Cp(E:Env)(M:Meta):Prop:= ∀g cs,E.G g=some cs->VR M.pure (.vref cs 0) (.pointer (some ⟨g,0,none⟩))
theorem Ext.pures{M M':Meta}(g:Ext M M'):Ext M.pure M'.pure:=⟨AJ _,fun _ _ e=>(by cases e),g.im,g.bsz,fun i hi=>absurd hi (DJ i),fun i hi=>absurd hi (DJ i)⟩
theorem Ext.pure(M:Meta):Ext M.pure M:=⟨AR _,fun _ _ e=>(by cases e),fun _ _ _ e=>e,fun _ _ e=>e,fun i hi=>absurd hi (DJ i),fun i hi=>absurd hi (DJ i)⟩
theorem Cp.mono{E:Env}{M M':Meta}(i:Ext M M')(h:Cp E M):Cp E M':=fun g cs e=>(h g cs e).mono i.pures
def Cq(E:Env)(cf:FuncId->Y14->Heap->Option (IV×Heap)):Prop:=
 ∀ g xs h v h', cf g xs h = some (v, h') → (∃ fn, E.P.funcs[g]? = some fn ∧ fn.body.isNone = false ∧ (fn.name == "runtime.NumGoroutine") = false) ∧ ∀ M w rs, Inv M h w → Cp E M → cX M xs rs →
  Calls E.P g rs.toArray w fun e w'=> ∃r M',e= .returned r/\VR M' v r/\Inv M' h' w'/\Pres w.heap.size M h w M' h' w'
section
variable {E:Env} {M M':Meta} {h h':Heap} {w w':World} {B n:Nat} {F:FF} {a:Act} {pb:Nat->Nat}
theorem TR.mono(i:Ext M M'){tv:TV}{r:Value}(g:TR M pb tv r):TR M' pb tv r:=by
 cases tv with
 |v x=>exact VR.mono i g
 |l s off=>exact g
 |u=>exact g
theorem Qj(p:Cp E M)(l:FR M h w B n F a pb): ∀x tv,bD E F.tm x=some tv->TR M pb tv (a.eval x):=by
 intro x tv i
 cases x with
 |tmp t=>exact l.tm t tv i
 |const v=>
  simp only [bD]at i;obtain⟨y,j,h2⟩:=AD.1 i;subst h2;exact(sU (M:=M) j).1
 |global g=>
  simp only [bD]at i;obtain⟨y,j,h2⟩:=AD.1 i;subst h2;exact(p g y j).mono (Ext.pure M)
 |func g=>
  simp [bD]at i;subst i;exact zZ (cX.nil M) (cX.nil M)
theorem FR.step(g:FR M h w B n F a pb)(j:Pres w.heap.size M h w M' h' w'):FR M' h' w' B n F a pb where
 size:=g.size
 tm:=fun t tv e=>(g.tm t tv e).mono j.ext
 loc:=fun s cs e=>by
  obtain⟨z,h2,A,rc,u,fz,l,D,G⟩:=g.loc s cs e;obtain⟨p,K,L⟩:=j.keep (pb s) (cW l) h2;exact⟨z,K,fun o=>(L o).trans (A o),rc,u,fz,p.trans l,fun i hi=>(jV p).trans (D i hi),G.mono j.ext⟩
 one:=g.one
 addr:=g.addr
theorem Cr(t:Array Value)(d k:Nat)(r:Value)(hd:d<t.size):(t.setIfInBounds d r).getD k undef=if k=d then r else t.getD k undef:=by
 simp only [CX,CW]
 by_cases hk:k=d
 ·subst hk;simp [hd]
 ·rw [if_neg (fun e=>hk e.symm),if_neg hk]
theorem FR.put(i:FR M h w B n F a pb){d:Option Tmp}(hd: ∀t,d=some t->t<n){v:Option TV}{r:Value}(u: ∀tv,v=some tv->TR M pb tv r)(j: ∀s g,v=some (.l s g)-> ∃cs,F.lv s=some cs):FR M h w B n (F.put d v) (a.put d r) pb:=by
 cases d with
 |none=>exact i
 |some t=>
  have p:=hd t rfl;have hs:=i.size;refine⟨by simpa [Act.put]using i.size,fun k tv e=>?_,i.loc,i.one,fun k s g e=>?_⟩
  case refine_2=>
   simp only [FF.put]at e
   by_cases hk:k=t
   ·rw [if_pos hk]at e;exact j s g e
   ·rw [if_neg hk]at e;exact i.addr k s g e
  simp only [FF.put]at e;simp only [Act.put];rw [Cr _ _ _ _ (AI p hs)]
  by_cases hk:k=t
  ·rw [if_pos hk]at e⊢;exact u tv e
  ·rw [if_neg hk]at e⊢;exact i.tm k tv e
theorem Inv.apart(g:Inv M h w){b:Nat}(u: ¬Wr M h b)(D: ∀o,M.im b o=none)(p: ∀k,k≠b->k<w.heap.size->w'.heap[k]?=w.heap[k]?)(hs:w.heap.size<=w'.heap.size):Inv M h w' where
 nid:=g.nid
 fresh:=g.fresh
 freshl:=g.freshl
 cells:=fun id cs e=>by
  obtain⟨c,rc,i,h2,l⟩:=g.cells id cs e;have j:c≠b:=fun e'=>u ⟨id,by simp [Wb,e,i,e']⟩
  exact⟨c,rc,i,h2.keep (p c j h2.lt) rfl,l⟩
 tips:=fun id n e=>by
  obtain⟨h0,c,e',rc,i,h2,l⟩:=g.tips id n e;have j:c≠b:=fun e'=>u ⟨id,by simp [Wb,e,i,e']⟩
  exact⟨h0,c,e',rc,i,h2.keep (p c j h2.lt) rfl,l⟩
 maps:=fun id A e=>by
  obtain⟨c,ents,z,i,h2,l⟩:=g.maps id A e;have j:c≠b:=fun e'=>u ⟨id,by simp [Wb,e,i,e']⟩
  exact⟨c,ents,z,i,(p c j (cW h2)).trans h2,l⟩
 im:=fun c o v e=>by
  have j:c≠b:=fun e'=>by subst e';rw [D]at e;simp at e
  rw [mO (p c j (g.im_lt e))];exact g.im c o v e
 bsz:=fun c n e=>by have:=g.bsz c n e;omega
 one:=g.one
 resv:=g.resv
structure Nxt(E:Env)(B n:Nat)(M:Meta)(h:Heap)(w:World)(a:Act)(F':FF)(h':Heap)(a':Act)(w':World)(M':Meta)(pb':Nat->Nat):Prop where
 fr:FR M' h' w' B n F' a' pb'
 inv:Inv M' h' w'
 glob:Cp E M'
 pres:Pres B M h w M' h' w'
 defers:a'.defers=a.defers
theorem L6{ops:List Oper}{o:Oper}{b:Bool}(z:FR M h w B n F a pb)(g:dJ ops F.tm o=some b):Region.wanted o (yielded ops.toArray a.tmps)=b:=by
 unfold dJ at g;unfold Region.wanted
 cases hg:o.guard with
 |none=>simp [hg]at g;simp [g]
 |some q=>
  obtain⟨j,c⟩:=q;simp only [hg]at g⊢;split at g
  case h_2=>simp at g
  rename_i d hd;split at g
  case h_3=>simp at g
  case h_2=>
   rename_i p;simp at g;subst g;have i:a.tmps.getD d undef=undef:=z.tm d _ p;have u:yielded ops.toArray a.tmps j=none:=by
    simp only [yielded,EC,hd,Option.bind_some];rw [CX]at i
    cases hq:a.tmps[d]? with
    |none=>rfl
    |some y=>rw [hq]at i;simp at i;subst i;rfl
   rw [u];rfl
  rename_i x p;simp at g;subst g;have i:VR M (.bool x) (a.tmps.getD d undef):=z.tm d _ p;generalize hr:a.tmps.getD d undef=r at i
  cases i
  have l:a.tmps[d]?=some (.bool x):=by
   rw [CX]at hr
   cases hq:a.tmps[d]? with
   |none=>rw [hq]at hr;simp [undef]at hr
   |some y=>rw [hq]at hr;simp at hr;rw [hr]
  have u:yielded ops.toArray a.tmps j=some x:=by
   simp only [yielded,EC,hd,Option.bind_some,l]
  rw [u]
  cases x<;>cases c<;>rfl
theorem c2E{f:FuncId}{cf:FuncId->Y14->Heap->Option (IV×Heap)}{ops:List Oper}{draw:Bool}{o:Oper}{e:Ef}(d9:Cq E cf)(hG:Cp E M)(hI:Inv M h w)(L:FR M h w B n F a pb)(hB:B<=w.heap.size)
  (hd: ∀t,o.dst=some t->t<n) (he:sS E f cf ops draw o F.tm F.lv h=some e) (Q:Exit->Act->World->Prop) (K:Act->World->Prop)
  (hK: ∀a' w' M' pb',Nxt E B n M h w a (F.app o.dst e) e.h a' w' M' pb'->K a' w'):
  if Region.wanted o (yielded ops.toArray a.tmps)then o.wp E.P a w K Q\/ (o.asks E.P a w/\LetsOut Q)else K (a.put o.dst undef) w:=by
 have hev:=Qj hG L;have D: ∀(d:Option Tmp)(r:Value),(a.put d r).defers=a.defers:=fun d r=>by cases d<;>rfl
 unfold sS at he
 cases hw:dJ ops F.tm o with
 |none=>simp [hw]at he
 |some b=>
  rw [L6 L hw];simp only [hw]at he
  cases b with
  |false=>
   simp only [AC]at he;subst he;simp only [BA,if_false];refine hK _ _ M pb ⟨?_,hI,hG,Pres.refl _ _ _ _,D _ _⟩;exact L.put hd (fun tv e=>by simp at e;subst e;exact rfl) (fun s A e=>by simp at e)
  |true=>
   simp only at he;simp only [if_true];refine .inl ?_;unfold Oper.wp
   unfold dX at he
   cases hp:eA E f o (bD E F.tm)with
   |some q=>
    obtain⟨v,bx⟩:=q;simp only [hp]at he;rcases b3R (E:=E) (M:=M) (w:=w) (pb:=pb) hI.im hev hp with⟨rfl,r,hr,hv⟩| ⟨cs,d,rc,el,rfl,T,rfl,hr,hc⟩| ⟨rfl,c9⟩
    ·simp only [AC]at he;subst he;rw [hr];refine hK _ _ M pb ⟨?_,hI,hG,Pres.refl _ _ _ _,D _ _⟩;exact L.put hd (fun tv e=>by simp at e;subst e;exact hv) (fun s A e=>by
      simp only [AC]at e;subst e;obtain⟨x,o',V⟩:=Yr hp
      cases x with
      |tmp t=>exact L.addr t s o' V
      |const c=>simp only [bD]at V;obtain⟨y,_,h2⟩:=AD.1 V;cases h2
      |global g=>simp only [bD]at V;obtain⟨y,_,h2⟩:=AD.1 V;cases h2
      |func g=>simp [bD]at V)
    ·simp only [T]at he;have c6: ∃c bb,e=⟨c,some (.l d 0),some (d,cs),bb,h⟩/\(bb=true\/F.lv d=none):=by
      split at he
      ·split at he
       ·rename_i O;simp only [AC]at he;exact⟨_,_,he.symm,.inr O⟩
       ·simp at he
      ·simp only [AC]at he;exact⟨_,_,he.symm,.inl rfl⟩
     obtain⟨c,bb,rfl,d8⟩:=c6;have c5: ∀t tv,(F.app (some d) ⟨c,some (.l d 0),some (d,cs),bb,h⟩).tm t=some tv->(t=d/\tv= .l d 0) \/ (t≠d/\F.tm t=some tv/\qA d tv=true):=by
      intro t tv X
      by_cases G:t=d
      ·left
       refine⟨G,?_⟩;subst G
       cases bb with
       |true=>
        simp only [FF.app,if_true,FF.put,FF.lset,FF.clr,AC]at X;exact X.symm
       |false=>
        simp only [FF.app,BA,if_false,if_true,FF.put,FF.lset,AC]at X;exact X.symm
      ·right
       refine⟨G,?_⟩
       cases bb with
       |true=>
        simp only [FF.app,if_true,FF.put,FF.lset,FF.clr,if_neg G]at X;split at X
        case h_2=>simp at X
        rename_i x V;split at X
        case isFalse=>simp at X
        rename_i b9;simp only [AC]at X;subst X;exact⟨V,b9⟩
       |false=>
        simp only [FF.app,BA,if_false,FF.put,FF.lset,if_neg G]at X;refine⟨X,?_⟩
        cases tv with
        |v y=>rfl
        |u=>rfl
        |l s A=>
         obtain⟨f7,h2⟩:=L.addr t s A X;have hn:=d8.resolve_left IP;have:s≠d:=fun e=>by subst e;rw [hn]at h2;cases h2
         simpa [qA]using this
     have O: ∀s,(F.app (some d) ⟨c,some (.l d 0),some (d,cs),bb,h⟩).lv s=if s=d then some cs else F.lv s:=by
      intro s
      cases bb<;>simp [FF.app,FF.put,FF.lset,FF.clr]
     rw [hr];simp only [Oper.upon];have nb:=NewBlk.alloc w (.cells rc el);have d0: ¬Wr M h w.heap.size:=by
      rintro⟨id,e⟩;have:=hI.wb_lt e;omega
     have b0: ∀A,M.im w.heap.size A=none:=by
      intro A
      cases e:M.im w.heap.size A with
      |none=>rfl
      |some v=>have:=hI.im_lt e;omega
     have b4:Inv M h (w.alloc (.cells rc el)):=hI.apart d0 b0 (fun k _ a8=>nb.old k a8) (by rw [nb.size];omega);refine hK _ _ M (fun s=>if s=d then w.heap.size else pb s) ⟨?_,b4,hG,⟨Ext.refl M,by rw [nb.size];omega,rfl,rfl,rfl,fun k G hn=>⟨nb.old k IM,hn,fun _=>rfl⟩⟩,D _ _⟩;have f1:=L.size;have e4:=hd d T;refine⟨?_,?_,?_,?_,?_⟩
     ·rw [T];simpa [Act.put]using L.size
     ·intro t tv X;rw [T]at X⊢;simp only [Act.put];rw [Cr _ _ _ _ (AI e4 f1)];rcases c5 t tv X with⟨G,rfl⟩| ⟨G,V,b9⟩
      ·rw [if_pos G];simp [TR]
      ·rw [if_neg G];have:=L.tm t tv V
       cases tv with
       |v y=>exact this
       |l s A=>
        have e9:s≠d:=by simpa [qA]using b9
        simpa [TR,e9]using this
       |u=>exact this
     ·intro s cs' es;rw [T,O]at es
      by_cases G:s=d
      ·rw [if_pos G]at es⊢;simp only [AC]at es;subst es;exact⟨hB,d0,b0,rc,el,(0,0),nb.new,fun i hi=>hU nb.new (.inl (AJ _)) i hi,hc⟩
      ·rw [if_neg G]at es⊢;obtain⟨h1,h2,h3,a5,b1,b2,h4,h5,h6⟩:=L.loc s cs' es;have a8:=cW h4;exact⟨h1,h2,h3,a5,b1,b2,(nb.old _ a8).trans h4,fun i hi=>(jV (nb.old _ a8)).trans (h5 i hi),h6⟩
     ·intro s s' c1 c2 e1 e2 e3;rw [T,O]at e1 e2
      by_cases G:s=d
      ·by_cases hk':s'=d
       ·rw [G,hk']
       ·rw [if_neg hk']at e2 e3;rw [if_pos G]at e3;obtain⟨_,_,_,a5,b1,b2,h4,_⟩:=L.loc s' c2 e2;have:=cW h4;omega
      ·rw [if_neg G]at e1 e3
       by_cases hk':s'=d
       ·rw [if_pos hk']at e3;obtain⟨_,_,_,a5,b1,b2,h4,_⟩:=L.loc s c1 e1;have:=cW h4;omega
       ·rw [if_neg hk']at e2 e3;exact L.one s s' c1 c2 e1 e2 e3
     ·intro k s A e;rw [T]at e⊢;rw [O]
      by_cases G:s=d
      ·exact⟨cs,by rw [if_pos G]⟩
      ·rw [if_neg G];rcases c5 k _ e with⟨_,c7⟩| ⟨_,V,_⟩
       ·simp at c7;exact absurd c7.1 G
       ·exact L.addr k s A V
    ·simp only [AC]at he;subst he;obtain⟨w',M',x,r,rfl,hr,h2,g1,g2⟩:=c9 h hI;rw [hr];have a2:=L.step g2;refine hK _ _ M' pb ⟨?_,g1,hG.mono g2.ext,g2.mono hB,D _ _⟩;exact a2.put hd (fun tv e=>by simp at e;subst e;exact h2) (fun s A e=>by simp at e)
   |none=>
    simp only [hp]at he
    cases hl:fR E o (bD E F.tm) F.lv with
    |some v=>
     simp only [hl,AC]at he;subst he;obtain⟨t,ad,s,A,Y,V⟩:=L4 hl;simp only [fR,Y,V]at hl;split at hl
     case h_2=>simp at hl
     rename_i cs O;obtain⟨y,h1,h2⟩:=AD.1 hl;subst h2;obtain⟨_,_,_,rc,el,fz,h4,h5,h6⟩:=L.loc s cs O;have a4:a.eval ad= .pointer (some ⟨pb s,A,none⟩):=hev _ _ V;obtain⟨r,h7,h8⟩:=uA (P:=E.P) (w:=w) (b:=pb s) (base:=0) h6 (fun i hi=>by simp [World.cell?,h4,show i<rc.size by simpa using hi]) h1;have hr:(execOp a.eval o).run E.P w= .ok (.value r) w:=by
      simp only [execOp,Y,a4,Instr.loadAt,Instr.sureAddr];exact cG _ _ (by simpa using h7)
     rw [hr];refine hK _ _ M pb ⟨?_,hI,hG,Pres.refl _ _ _ _,D _ _⟩;exact L.put hd (fun tv e=>by simp at e;subst e;exact h8) (fun s A e=>by simp at e)
    |none=>
     simp only [hl]at he
     cases hs:gJ E o (bD E F.tm) F.lv with
     |some q=>
      obtain⟨s0,cs'⟩:=q;simp only [hs,AC]at he;subst he;obtain⟨t,ad,x,s,A,Y,V⟩:=sX hs;simp only [gJ,Y,V]at hs;split at hs
      case h_2=>simp at hs
      rename_i s' f5 v' c8 f2;simp only [AC,TV.l.injEq]at c8;obtain⟨rfl,rfl⟩:=c8;split at hs
      case h_2=>simp at hs
      rename_i cs O;obtain⟨y,h1,h2⟩:=AD.1 hs;simp only [BY]at h2;obtain⟨rfl,rfl⟩:=h2;obtain⟨l1,l2,l3,rc,el,fz,h4,h5,h6⟩:=L.loc s cs O;have a4:a.eval ad= .pointer (some ⟨pb s,A,none⟩):=hev _ _ V;have d7:eB M cs (rc.toList.take cs.length):=by rw [AP (by have:=h6.len;simp at this⊢;omega)];exact h6
      obtain⟨a5,s1,s2,s3,s4,s5,s6⟩:=Ch (P:=E.P) d7 h4 h5 (bH hev f2) h1;have hr:(execOp a.eval o).run E.P w= .ok .skip (w.setCells (pb s) A (a.eval x).cells.toList):=by
       simp only [execOp,Y,a4,Instr.storeAt,Instr.sureAddr];exact S1 _ _ (by simpa using s1)
      rw [hr];simp only [Oper.upon];have a3:=fun k (G:k≠pb s)=>eX (pb s) (a.eval x).cells.toList A w k G
      have Z:=fP (pb s) (a.eval x).cells.toList A w;have f0:=fO (pb s) (a.eval x).cells.toList A w;have a9: ∀c j,(w.setCells (pb s) A (a.eval x).cells.toList).frozen? ⟨c,j,none⟩=w.frozen? ⟨c,j,none⟩:=fun c j=>World.frozen?_setCells _ _ _ _ _
      have b4:Inv M h (w.setCells (pb s) A (a.eval x).cells.toList):=hI.apart l2 l3 (fun k G _=>a3 k G) IM;have b3:=L.put (d:=o.dst) (v:=none) (r:=undef) hd (fun tv e=>by simp at e) (fun s A e=>by simp at e);have c5:((F.put o.dst none).lset s y).tm=(F.put o.dst none).tm:=rfl;have a1:(F.put o.dst none).lv=F.lv:=by cases o.dst<;>rfl
      refine hK _ _ M pb ⟨?_,b4,hG,⟨Ext.refl M,IM,Z.1,Z.2.1,Z.2.2,fun k G hn=>⟨a3 k IM,hn,fun _=>rfl⟩⟩,D _ _⟩;refine⟨b3.size,fun t tv X=>b3.tm t tv X,fun z cz ez=>?_,fun z z' c1 c2 e1 e2 e3=>?_,fun k z d4 e=>?_⟩
      case refine_3=>
       obtain⟨cz,hz⟩:=b3.addr k z d4 e;rw [a1]at hz;simp only [FF.app,BA,if_false,FF.lset,a1]
       by_cases hzs:z=s
       ·exact⟨_,if_pos hzs⟩
       ·exact⟨cz,by rw [if_neg hzs];exact hz⟩
      ·simp only [FF.app,BA,if_false,FF.lset,a1]at ez
       by_cases hz:z=s
       ·subst hz;rw [if_pos rfl]at ez;simp only [AC]at ez;subst ez;refine⟨l1,l2,l3,a5,el,fz,s2,fun i hi=>by rw [a9];exact h5 i IM,?_⟩;rw [AP (by have:=h6.len;simp at this⊢;omega)]at s5;exact s5
       ·rw [if_neg hz]at ez;obtain⟨k1,k2,k3,f4,d5,d6,k4,k5,k6⟩:=L.loc z cz ez;have e7:pb z≠pb s:=fun e=>hz (L.one z s cz cs ez O e)
        exact⟨k1,k2,k3,f4,d5,d6,(a3 _ e7).trans k4,fun i hi=>by rw [a9];exact k5 i hi,k6⟩
      ·simp only [FF.app,BA,if_false,FF.lset,a1]at e1 e2;have g1: ∃c,F.lv z=some c:=by
        by_cases hz:z=s
        ·exact⟨cs,hz▸O⟩
        ·rw [if_neg hz]at e1;exact⟨_,e1⟩
       have g2: ∃c,F.lv z'=some c:=by
        by_cases hz:z'=s
        ·exact⟨cs,hz▸O⟩
        ·rw [if_neg hz]at e2;exact⟨_,e2⟩
       obtain⟨d1,g1⟩:=g1;obtain⟨d2,g2⟩:=g2;exact L.one z z' d1 d2 g1 g2 e3
     |none=>
      simp only [hs]at he
      cases hr:dO E o (bD E F.tm) h with
      |some v=>
       simp only [hr,AC]at he;subst he;obtain⟨x,r,rfl,h1,h2⟩:=b3M (E:=E) (pb:=pb) hI hev hr;rw [h1];refine hK _ _ M pb ⟨?_,hI,hG,Pres.refl _ _ _ _,D _ _⟩;exact L.put hd (fun tv e=>by simp at e;subst e;exact h2) (fun s A e=>by simp at e)
      |none=>
       simp only [hr]at he
       cases hee:fZ E f o (bD E F.tm) h with
       |some q=>
        obtain⟨v,h'⟩:=q;simp only [hee,AC]at he;subst he;obtain⟨w',M',g1,g2,g3⟩:=Qg (E:=E) (pb:=pb) hI hev hee;have a2:=L.step g2;rcases g3 with⟨x,r,rfl,h1,h2⟩| ⟨rfl,h1⟩
        ·rw [h1];refine hK _ _ M' pb ⟨?_,g1,hG.mono g2.ext,g2.mono hB,D _ _⟩;exact a2.put hd (fun tv e=>by simp at e;subst e;exact h2) (fun s A e=>by simp at e)
        ·rw [h1];refine hK _ _ M' pb ⟨?_,g1,hG.mono g2.ext,g2.mono hB,D _ _⟩;exact a2.put hd (fun tv e=>by simp at e) (fun s A e=>by simp at e)
       |none=>
        simp only [hee]at he
        cases hcl:dM o (bD E F.tm)with
        |none=>simp [hcl]at he
        |some q=>
         obtain⟨g,xs⟩:=q;simp only [hcl]at he;split at he
         case h_2=>simp at he
         rename_i v h' b7;simp only [AC]at he;subst he;unfold dM at hcl;split at hcl
         case h_2=>simp at hcl
         rename_i x a0 f6 Y;split at hcl
         case h_2=>simp at hcl
         rename_i g' p q' f8 V f3;simp only [AC,BY]at hcl;obtain⟨rfl,rfl⟩:=hcl;have e6:VR M (.func (.func g') p q') (a.eval x):=hev _ _ V;obtain⟨rp,rq,e8,vp,vq⟩:=b3C e6;have b5:=kV hev f3;obtain⟨⟨fn,e5,b6,c0⟩,a6⟩:=d9 g' _ _ _ _ b7;have hc:=a6 M w (rp++a0.toList.map a.eval++rq) hI hG ((vp.append b5).append vq);have d3:(execOp a.eval o).run E.P w=(callFunc g' (rp++a0.toList.map a.eval++rq).toArray).run E.P w:=by
          simp only [execOp,Y,resolve,e8,Deferred.ofValue,AU,AZ,AL,invoke]
          congr 2
          apply EL;simp
         have a7:(callFunc g' (rp++a0.toList.map a.eval++rq).toArray).run E.P w= .ok (.enter g' (rp++a0.toList.map a.eval++rq).toArray) w:=by
          simp only [callFunc,AU,run_program,AL,e5,c0,b6,BA,if_false,AZ]
         rw [d3,a7];simp only [Oper.upon];refine Calls.mono hc (fun e w' c3=>?_);obtain⟨r,M',rfl,h1,h2,h3⟩:=c3;have a2:=L.step h3;refine hK _ _ M' pb ⟨?_,h2,hG.mono h3.ext,h3.mono hB,D _ _⟩;exact a2.put hd (fun tv e=>by simp at e;subst e;exact h1) (fun s A e=>by simp at e)
theorem Qk{f:FuncId}{cf:FuncId->Y14->Heap->Option (IV×Heap)}{ops:List Oper}{draw:Bool}{rs:Y10}{o:Oper}{e:Ef}(L:Cq E cf)(u:Cp E M)(A:Inv M h w)(l:FR M h w B n F a pb)(G:B<=w.heap.size)
  (hd: ∀t,o.dst=some t->t<n) (he:dK E f cf ops draw rs o F.tm F.lv h=some e) (Q:Exit->Act->World->Prop) (K:Act->World->Prop)
  (hK: ∀a' w' M' pb',Nxt E B n M h w a (F.app o.dst e) e.h a' w' M' pb'->K a' w'):
  if Region.wanted o (yielded ops.toArray a.tmps)then o.wp E.P a w K Q\/ (o.asks E.P a w/\LetsOut Q)else K (a.put o.dst undef) w:=by
 cases rs with
 |none=>exact c2E L u A l G hd he Q K hK
 |some k=>
  have hev:=Qj u l;have i: ∀(d:Option Tmp)(r:Value),(a.put d r).defers=a.defers:=fun d r=>by cases d<;>rfl
  unfold dK at he
  cases hw:dJ ops F.tm o with
  |none=>simp [hw]at he
  |some b=>
   rw [L6 l hw];simp only [hw]at he
   cases b with
   |false=>
    simp only [AC]at he;subst he;simp only [BA,if_false];refine hK _ _ M pb ⟨?_,A,u,Pres.refl _ _ _ _,i _ _⟩;exact l.put hd (fun tv e=>by simp at e;subst e;exact rfl) (fun s z e=>by simp at e)
   |true=>
    simp only at he;simp only [if_true];refine .inl ?_;unfold Oper.wp
    cases ha:zJ E f o (bD E F.tm) k with
    |none=>simp [ha]at he
    |some q=>
     obtain⟨v,x⟩:=q;simp only [ha]at he;have g: ∃c h',e=⟨c,v,none,false,h'⟩/\Jh E M h w o a.eval v h':=by
      cases x with
      |none=>
       simp only [AC]at he;exact⟨_,_,he.symm,b3V (pb:=pb) A hev ha⟩
      |some x=>
       simp only at he;split at he
       case h_2=>cases he
       rename_i hf;simp only [AC]at he;exact⟨_,_,he.symm,c2D (pb:=pb) A hev hf ha⟩
     obtain⟨c,h',rfl,g⟩:=g;obtain⟨w',M',O,j,T⟩:=g;have p:=l.step j;rcases T with⟨x,r,rfl,D,h2⟩| ⟨rfl,D⟩
     ·rw [D];refine hK _ _ M' pb ⟨?_,O,u.mono j.ext,j.mono G,i _ _⟩;exact p.put hd (fun tv e=>by simp at e;subst e;exact h2) (fun s z e=>by simp at e)
     ·rw [D];refine hK _ _ M' pb ⟨?_,O,u.mono j.ext,j.mono G,i _ _⟩;exact p.put hd (fun tv e=>by simp at e) (fun s z e=>by simp at e)
end
theorem hZ(m b:Nat):iK m b=true ↔ ∀k,m.testBit k=true->b.testBit k=true:=by
 unfold iK
 rw [beq_iff_eq]
 constructor
 ·intro h k g;rw [<-h,Nat.testBit_and]at g;simp at g;exact g.2
 ·intro h;apply Nat.eq_of_testBit_eq;intro k;rw [Nat.testBit_and]
  cases hm:m.testBit k with
  |false=>simp
  |true=>simp [h k hm]
theorem jO(i k:Nat):(Yp i).testBit k=decide (i=k):=by
 unfold Yp
 rw [Nat.testBit_two_pow]
theorem Wg(m:Met){c g:Cls}(i:Nat)(h:iD c g=true):((m.add c i).chk g).testBit i=true:=by
 cases c<;>cases g<;>first| (simp [iD]at h;done)|simp [Met.add,Met.chk,jO]
section
variable {E:Env} {f:FuncId} {cf:FuncId->Y14->Heap->Option (IV×Heap)} {ops:List Oper} {bef:Nat->Nat}
def L7(m g:Met):Prop:=(∀k,g.e.testBit k=true->m.e.testBit k=true)/\(∀k,g.r.testBit k=true->m.r.testBit k=true)/\(∀k,g.s.testBit k=true->m.s.testBit k=true)/\(∀k,g.l.testBit k=true->m.l.testBit k=true)/\(∀k,g.a.testBit k=true->m.a.testBit k=true)
def pR(i g:Pd):Prop:= ∀p'∈g,∃p∈i,p.1=p'.1/\∀h,p.2 h=true->p'.2 h=true
theorem L7.of_add(m:Met)(c:Cls)(i:Nat):L7 (m.add c i) m:=by
 cases c<;>refine⟨fun k g=>?_,fun k g=>?_,fun k g=>?_,fun k g=>?_,fun k g=>?_⟩<;>simp [Met.add,g]
theorem L7.add{m D:Met}(h:L7 m D)(c:Cls)(i:Nat):L7 (m.add c i) (D.add c i):=by
 obtain⟨j,h2,l,p,u⟩:=h;have g: ∀a b:Nat,(∀k,b.testBit k=true->a.testBit k=true)-> ∀k,(b|||Yp i).testBit k=true->(a|||Yp i).testBit k=true:=by
  intro a b A k z;rw [FQ,CL]at z⊢;rcases z with z|z
  ·exact .inl (A k z)
  ·exact .inr z
 cases c
 ·exact⟨j,h2,l,p,u⟩
 ·exact⟨j,h2,l,g _ _ p,u⟩
 ·exact⟨j,h2,g _ _ l,p,u⟩
 ·exact⟨j,g _ _ h2,l,p,u⟩
 ·exact⟨g _ _ j,h2,l,p,u⟩
 ·exact⟨j,h2,l,p,u⟩
 ·exact⟨j,h2,l,p,g _ _ u⟩
theorem L7.chk{m p:Met}(h:L7 m p)(c:Cls){b:Nat}(l:iK (m.chk c) b=true):iK (p.chk c) b=true:=by
 obtain⟨i,h2,j,u,z⟩:=h;rw [hZ]at l⊢;intro k g;apply l
 cases c
 ·exact g
 ·exact j k g
 ·simp only [Met.chk,FQ,CL]at g⊢;rcases g with g|g
  ·exact .inl (j k g)
  ·exact .inr (u k g)
 ·exact i k g
 ·simp only [Met.chk,FQ,CL]at g⊢;rcases g with(g|g)|g
  ·exact .inl (.inl (i k g))
  ·exact .inl (.inr (h2 k g))
  ·exact .inr (z k g)
 ·exact g
 ·exact i k g
theorem Wh{l:List Nat}{rs:Nat->Y10}{m i:Met}{b:Nat}{id:Y10}{c:Cls}(u:L7 m i)(g:R8 l rs m b id c=true):R8 l rs i b id c=true:=by
 unfold R8 at g⊢;split at g
 ·simp only [CA,CL,CH]at g⊢;intro j p;rcases g j p with z|z|z
  ·exact .inl z
  ·refine .inr (.inl ?_)
   cases hq:i.a.testBit j with
   |false=>rfl
   |true=>rw [u.2.2.2.2 j hq]at z;cases z
  ·exact .inr (.inr z)
 ·rfl
theorem Cs: ∀{l:List Nat}{k j n:Nat},Ix k l j=some n->j∈l
 | [],_,_,_,h=>by cases h
 |i::r,k,j,n,h=>by
  unfold Ix at h;split at h
  ·rename_i e;rw [AS e];exact BJ
  ·exact BX _ (Cs h)
theorem Wi{m D:Met}{G i:Pd}{b:Nat}{e e':Ef}(A:L7 m D)(L:pR G i)(l:e'.c=e.c)(K:e.c= .e->e'.h=e.h)(g:Iw m G b e=true):Iw D i b e'=true:=by
 unfold Iw at g⊢
 cases hec:e.c with
 |e=>
  rw [hec]at g l;rw [l,K hec];simp only [AF,CA,CL]at g⊢;refine⟨(hZ _ _).2 fun k u=>(hZ _ _).1 g.1 k ?_,fun O j=>?_⟩
  ·rw [FQ,CL]at u⊢;exact u.imp (A.1 k) (A.2.2.2.2 k)
  obtain⟨p,T,V,X⟩:=L O j;rcases g.2 p T with z|z
  ·exact .inl (by rw [<-V];exact z)
  ·exact .inr (X _ z)
 |_=>rw [hec]at g;cases g
theorem uK{p:List Nat}{rs:Nat->Y10}{id:Y10}{m u:Met}{A g:Pd}{b:Nat}{e e':Ef}(l:L7 m u)(G:pR A g)(j:e'.c=e.c)(D:e.c= .e->e'.h=e.h)(i:okB p rs m A b id e=true):
  okB p rs u g b id e'=true:=by
 unfold okB at i⊢;rw [AF,CL]at i⊢;refine⟨?_,by rw [j];exact Wh l i.2⟩;rcases i.1 with z|z
 ·exact .inl (by rw [j];exact l.chk _ z)
 ·exact .inr (Wi l G j D z)
theorem pR.refl(g:Pd):pR g g:=fun p i=>⟨p,i,rfl,fun _ h=>h⟩
theorem pR.of_add(j:Pd)(o:Oper)(ev:Operand->Option TV)(e:Ef)(i:Nat):pR (kY E o ev e i j) j:=by
 intro p g;refine⟨p,?_,rfl,fun _ h=>h⟩;unfold kY
 split
 ·exact BX _ g
 ·exact g
theorem pR.add{l j:Pd}(h:pR l j)(o:Oper)(ev:Operand->Option TV)(e:Ef)(i:Nat):pR (kY E o ev e i l) (kY E o ev e i j):=by
 unfold kY
 split
 ·intro u g;rcases BQ.1 g with rfl|g
  ·exact⟨_,BJ,rfl,fun _ z=>z⟩
  ·obtain⟨p,A,D⟩:=h u g;exact⟨p,BX _ A,D⟩
 ·exact h
theorem rQ{z:List Nat}{rs:Nat->Y10}{draw:Bool} : ∀{l:List (Oper×Nat)}{m p:Met}{u g:Pd}{F j:FF}{h h':Heap},Co E f cf ops bef z rs draw l m u F h j h'->L7 m p->pR u g->Co E f cf ops bef z rs draw l p g F h j h'
 | [],_,_,_,_,_,_,_,_,hr,_,_=>hr
 | (o,i)::l,m,p,u,g,F,j,h,h',hr,hm,hp=>by
  obtain⟨e,r1,A,D⟩:=hr;exact⟨e,r1,fun hd=>uK hm hp rfl (fun _=>rfl) (A hd),rQ D (hm.add _ _) (hp.add _ _ _ _)⟩
theorem L7.refl(m:Met):L7 m m:=⟨fun _ h=>h,fun _ h=>h,fun _ h=>h,fun _ h=>h,fun _ h=>h⟩
theorem Zi(g:pL E cf){al:List Nat}{rs:Nat->Y10}(a2: ∀j n,rs j=some n->j∈al){o:Oper}{i:Nat}{B:List (Oper×Nat)} : ∀{A:List (Oper×Nat)}{m:Met}{pd:Pd}{F F':FF}{h h':Heap},qI F->(∀p∈A,(bef i).testBit p.2=false/\Oper.apart ops.toArray p.1 o=true)->
  Co E f cf ops bef al rs true (A++(o,i)::B) m pd F h F' h'->
  ∃e,dK E f cf ops true (rs i) o F.tm F.lv h=some e/\okB al rs m pd (bef i) (iX o (bD E F.tm)) e=true/\Co E f cf ops bef al rs true (A++B) m pd (F.app o.dst e) e.h F' h'
 | [],m,pd,F,F',h,h',_,_,hr=>by
  obtain⟨e,r1,r2,r3⟩:=hr;exact⟨e,r1,r2 rfl,rQ r3 (L7.of_add _ _ _) (pR.of_add _ _ _ _ _)⟩
 | (oa,ia)::A,m,pd,F,F',h,h',hAd,hA,hr=>by
  obtain⟨h1,h2⟩:=hA (oa,ia) IP;obtain⟨K,r1,r2,r3⟩:=hr;obtain⟨D,s1,s2,s3⟩:=Zi g a2 (hAd.appA g r1) (fun p hp=>hA p (by simp [hp])) r3;have a1:=r2 rfl;obtain⟨ab,ap,c0,c5,ar,ae,ax,aa⟩:=eM g r1;obtain⟨ib,ip,il,b5,ir,ie,ix,c6⟩:=eM g s1;obtain⟨t1,t2,t3⟩:=Oper.apart_spec h2;have b3:iX o (bD E (F.app oa.dst K).tm)=iX o (bD E F.tm):=wI (jC (E:=E) (ops:=ops) fun t X=>by rw [fH ab,if_neg (fun e=>t1 t e X)]);rw [b3]at s2
  cases hcl:iD K.c D.c with
  |false=>
   have b2:K.c= .a->D.c= .r-> ∀n id,rs ia=some n->iX o (bD E F.tm)=some id->n≠id:=by
    intro c1 c2 n id hn b0;have hs:=s2;unfold okB R8 at hs;rw [c2,AF]at hs;have a3:=hs.2;simp only [CA,CL,CH]at a3;obtain⟨_,n',x',w1,_⟩:=aa c1;rw [w1]at hn;simp only [AC]at hn;subst hn;rcases a3 ia (a2 _ _ w1)with z|z|z
    ·rw [h1]at z;cases z
    ·rw [c1]at z;simp [Met.add,jO]at z
    ·rw [w1,b0]at z;simp only [CH]at z;rintro rfl;rw [IJ]at z;cases z
   obtain⟨V,Y,q1,q2,q3,q4,q5,q6,q7⟩:=d5P g hAd h2 r1 s1 hcl b2;obtain⟨a4,_,_,_,_,_,_,_⟩:=eM g q1;obtain⟨b7,a6,a5,a7,c3,b9,a8,b6⟩:=eM g q2;have T:iX oa (bD E (F.app o.dst V).tm)=iX oa (bD E F.tm):=wI (jC (E:=E) (ops:=ops) fun t X=>by rw [fH a4,if_neg (fun e=>t3 t e X)]);have b1:D.c= .e->V.h=D.h:=by
    intro L;rw [<-q6];rw [L]at hcl
    cases hca:Y.c with
    |p=>exact(a6 hca).2.1.symm
    |l=>exact(a5 hca).2.1.symm
    |s=>exact(a7 hca).1.symm
    |b=>exact(a8 hca).1.symm
    |r=>rw [q4]at hca;rw [hca]at hcl;cases hcl
    |e=>rw [q4]at hca;rw [hca]at hcl;cases hcl
    |a=>rw [q4]at hca;rw [hca]at hcl;cases hcl
   have a9:K.c= .e->Y.h=K.h:=by
    intro L;rw [q6];rw [L]at hcl
    cases hci:D.c with
    |p=>exact(ip hci).2.1
    |l=>exact(il hci).2.1
    |s=>exact(b5 hci).1
    |b=>exact(ix hci).1
    |r=>rw [hci]at hcl;cases hcl
    |e=>rw [hci]at hcl;cases hcl
    |a=>rw [hci]at hcl;cases hcl
   refine⟨V,q1,uK (L7.of_add _ _ _) (pR.of_add _ _ _ _ _) q3 b1 s2,Y,q2,fun _=>by rw [T];exact uK (L7.refl _) (pR.refl _) q4 a9 a1,?_⟩;rw [q4,q5,q6];refine rQ s3 (L7.refl _) ?_;have hev: ∀h2,dO E oa (bD E (F.app o.dst V).tm) h2=dO E oa (bD E F.tm) h2:=fun h2=>wH (jC (E:=E) (ops:=ops) fun t X=>by rw [fH a4,if_neg (fun e=>t3 t e X)])
   unfold kY
   rw [q4]
   cases hca:K.c with
   |r=>
    simp only [q7,hev];exact pR.refl _
   |_=>exact pR.refl _
  |true=>
   have u:=s2;unfold okB at u;rw [AF,CL]at u;rcases u.1 with u|u
   ·have:=(hZ _ _).1 u ia (Wg m ia hcl);rw [h1]at this;cases this
   ·have a0:D.c= .e:=by
     unfold Iw at u
     cases L:D.c with
     |e=>rfl
     |_=>rw [L]at u;cases u
    have hs:=u;unfold Iw at hs;rw [a0]at hs hcl;simp only [AF]at hs;have O:K.c= .r:=by
     cases L:K.c with
     |r=>rfl
     |e=>
      exfalso;have:=(hZ _ _).1 hs.1 ia (by rw [L];simp [Met.add,jO]);rw [h1]at this;cases this
     |a=>
      exfalso;have:=(hZ _ _).1 hs.1 ia (by rw [L];simp [Met.add,jO]);rw [h1]at this;cases this
     |_=>rw [L]at hcl;cases hcl
    have G:=hs.2;unfold kY at G;rw [O]at G;simp only [EP,AF,h1,Bool.false_or]at G;have hP:=G.1;have Z:dK E f cf ops true (rs ia) oa F.tm F.lv D.h=some {K with h:=D.h } :=by
     split at hP
     ·rename_i v2 v b4 hv;have e1:=b3W hP;subst e1;exact Wf r1 O b4 hv
     ·cases hP
    obtain⟨g1,g2,g3⟩:=d0L g h2 r1 s1 O a0 Z;have T:iX oa (bD E (F.app o.dst D).tm)=iX oa (bD E F.tm):=wI (jC (E:=E) (ops:=ops) fun t X=>by rw [fH ib,if_neg (fun e=>t3 t e X)]);refine⟨D,g1,uK (L7.of_add _ _ _) (pR.of_add _ _ _ _ _) rfl (fun _=>rfl) s2,{K with h:=D.h },g2,fun _=>?_,?_⟩
    ·rw [T];exact uK (e:=K) (e':= {K with h:=D.h }) (L7.refl _) (pR.refl _) rfl (fun L=>by rw [O]at L;cases L) a1
    ·rw [g3];refine rQ s3 (L7.refl _) ?_;have hev: ∀h2,dO E oa (bD E (F.app o.dst D).tm) h2=dO E oa (bD E F.tm) h2:=fun h2=>wH (jC (E:=E) (ops:=ops) fun t X=>by rw [fH ib,if_neg (fun e=>t3 t e X)])
     unfold kY
     simp only [O,hev];exact pR.refl _
structure RegOk(ops:List Oper)(bef:Nat->Nat):Prop where
 back: ∀i o,ops[i]?=some o-> ∀e∈o.after.toList,Region.binds .any e=true->e.on<i
 apart: ∀i o a oa,ops[i]?=some o->a<i->ops[a]?=some oa->(bef i).testBit a=false->Oper.apart ops.toArray oa o=true
 clos: ∀i o a,ops[i]?=some o->(bef i).testBit a=true-> ∃e∈o.after.toList,Region.binds .any e=true/\(e.on=a\/ (bef e.on).testBit a=true)
theorem Jk(K:RegOk ops bef){P:Nat->Prop}(g: ∀j o,P j->ops[j]?=some o-> ∀e∈o.after.toList,Region.binds .any e=true->P e.on)(A: ∀j,P j-> ∃o,ops[j]?=some o):
  ∀i o,ops[i]?=some o->(∀e∈o.after.toList,Region.binds .any e=true->P e.on)-> ∀a,(bef i).testBit a=true->P a:=by
 intro i
 induction i using Nat.strongRecOn with
 |_ i ih=>
  intro o L O a ha;obtain⟨e,G,h2,z⟩:=K.clos i o a L ha;have D:=O e G h2;rcases z with rfl|z
  ·exact D
  ·obtain⟨T,l⟩:=A _ D;exact ih e.on (K.back i o L e G h2) T l (fun e' p u=>g _ _ D l e' p u) a z
variable {B n:Nat}
structure Todo(ops:List Oper)(n:Nat)(L:List (Oper×Nat)):Prop where
 at_: ∀p∈L,ops[p.2]?=some p.1
 dst: ∀p∈L,∀t,p.1.dst=some t->t<n
theorem Nxt.trans'{M l p:Meta}{h A h2:Heap}{w D G:World}{a u z:Act}{K j:FF}{i g:Nat->Nat}(x:Nxt E B n M h w a K A u D l i)(y:Nxt E B n l A D u j h2 z G p g):
 Nxt E B n M h w a j h2 z G p g:=⟨y.fr,y.inv,y.glob,x.pres.trans y.pres,y.defers.trans x.defers⟩
theorem Ct{V:List Nat}{rs:Nat->Y10}{draw:Bool}(g:Cq E cf)(Q:Exit->Act->World->Prop): ∀(L:List (Oper×Nat))(m:Met)(D:Pd)(F:FF)(h:Heap)(l:FF)(h':Heap),Co E f cf ops bef V rs draw L m D F h l h'->Todo ops n L->
  ∀(M:Meta)(w:World)(a:Act)(pb:Nat->Nat),Cp E M->Inv M h w->FR M h w B n F a pb->B<=w.heap.size->
  (∀a' w' M' pb',Nxt E B n M h w a l h' a' w' M' pb'->Q .normal a' w')->wpOps E.P ops.toArray Q (L.map (·.2)) a w
 | [],m,D,F,h,l,h',hr,hT,M,w,a,pb,hG,hI,hF,hB,hQ=>by
  obtain⟨rfl,rfl⟩:=hr;exact hQ a w M pb ⟨hF,hI,hG,Pres.refl _ _ _ _,rfl⟩
 | (o,i)::L,m,D,F,h,l,h',hr,hT,M,w,a,pb,hG,hI,hF,hB,hQ=>by
  obtain⟨e,r1,r2,Z⟩:=hr;have X:ops.toArray[i]?=some o:=by simpa using hT.at_ (o,i) IP
  simp only [CF,wpOps,X];refine Qk g hG hI hF hB (hT.dst (o,i) IP) r1 Q _ (fun O w1 G z j=>?_);exact Ct g Q L _ _ _ _ _ _ Z ⟨fun p u=>hT.at_ p (by simp [u]),fun p u=>hT.dst p (by simp [u])⟩ G w1 O z j.glob j.inv j.fr (BK hB j.pres.size)
   (fun T w2 K A Y=>hQ T w2 K A (j.trans' Y))
structure Lst(ops:List Oper)(L:List (Oper×Nat))(listed:Array Bool):Prop where
 size:listed.size=ops.length
 iff_: ∀i,i<ops.length->(listed.getD i true=false ↔ ∃p∈L,p.2=i)
 clos: ∀j o,ops[j]?=some o->listed.getD j true=true-> ∀e∈o.after.toList,Region.binds .any e=true->listed.getD e.on false=true
theorem qJ{p q:Oper×Nat}(h:pK ops p q=true):p.2<q.2\/ (p.2≠q.2/\(∀e∈p.1.after.toList,e.on≠q.2)/\Oper.apart ops.toArray p.1 q.1=true):=by
 unfold pK at h;simp only [CL,AF,CA,CH]at h;rcases h with h| ⟨⟨g,h2⟩,i⟩
 ·exact .inl (CC h)
 ·exact .inr ⟨ES g,fun e j=>ES (h2 e j),i⟩
theorem Cu{p q:Oper×Nat}(h:pK ops p q=true):p.2≠q.2:=by
 rcases qJ h with z|z
 ·omega
 ·exact z.1
theorem L8: ∀{L:List (Oper×Nat)},zW ops L=true->L.Pairwise (fun p q=>pK ops p q=true)
 | [],_=> .nil
 |p::r,h=>by
  simp only [zW,AF,CA]at h;exact .cons h.1 (L8 h.2)
theorem uL(l:Array Bool)(i:Nat)(h:i<l.size)(a b:Bool):l.getD i a=l.getD i b:=by simp [CX,h]
theorem b3Z{al:List Nat}{rs:Nat->Y10}(a9: ∀j n,rs j=some n->j∈al)(c5:Cq E cf)(b3:pL E cf)(hR:RegOk ops bef)(Q:Exit->Act->World->Prop): ∀(T:Nat)(L:List (Oper×Nat))(g:Array Bool)(m:Met)(pd:Pd)(F:FF)(h:Heap)(F':FF)(h':Heap),L.length<=T->Co E f cf ops bef al rs true L m pd F h F' h'->Todo ops n L->L.Pairwise (fun p q=>pK ops p q=true)->Lst ops L g->
  ∀(M:Meta)(w:World)(a:Act)(pb:Nat->Nat),Cp E M->Inv M h w->FR M h w B n F a pb->B<=w.heap.size->
  (∀a' w' M' pb',Nxt E B n M h w a F' h' a' w' M' pb'->Q .normal a' w')->wpAny E.P .any ops.toArray Q T g a w:=by
 have empty: ∀{L:List (Oper×Nat)}{g:Array Bool},Todo ops n L->L.Pairwise (fun p q=>pK ops p q=true)->Lst ops L g->Region.ready .any ops.toArray g=[]->L=[]:=by
  intro L g hT a9 O hr
  cases L with
  |nil=>rfl
  |cons p L=>
   exfalso;have hp:=hT.at_ p IP;have a6:p.2<ops.length:=(BB.1 hp).1;have G:=(O.iff_ p.2 a6).2 ⟨p,IP,rfl⟩;have:p.2∈Region.ready .any ops.toArray g:=by
    simp only [Region.ready,GG,EU,DX];refine⟨a6,?_⟩;simp only [G,Bool.not_false,BN,EC,hp,DN,CS];rw [GC];intro e X
    cases V:Region.binds .any e with
    |false=>simp
    |true=>
     have c9:=hR.back p.2 p.1 hp e (by simpa using X) V;have a8:e.on<ops.length:=IM;simp only [Bool.not_true,Bool.false_or];rw [uL g e.on (by rw [O.size];exact a8) false true]
     cases l:g.getD e.on true with
     |true=>rfl
     |false=>
      obtain⟨q,q1,q2⟩:=(O.iff_ e.on a8).1 l;have u:=GV.1 a9;simp only [BQ]at q1;rcases q1 with rfl|q1
      ·omega
      ·rcases qJ (u.1 q q1)with z| ⟨_,z,_⟩
       ·omega
       ·exact absurd q2.symm (z e (by simpa using X))
   rw [hr]at this;simp at this
 intro T
 induction T with
 |zero=>
  intro L g m pd F h F' h' a0 hr hT a3 O M w a pb hG hI hF hB hQ;have:L=[]:=by simpa using a0
  subst this;obtain⟨rfl,rfl⟩:=hr;refine⟨?_,hQ a w M pb ⟨hF,hI,hG,Pres.refl _ _ _ _,rfl⟩⟩;simp only [Region.ready];rw [List.filter_eq_nil_iff];intro i hi;simp only [EU,DX]at hi;have: ¬g.getD i true=false:=by
   rw [O.iff_ i hi];simp
  simp at this;simp [this]
 |succ T ih=>
  intro L g m pd F h F' h' a0 hr hT a3 O M w a pb hG hI hF hB hQ;refine⟨fun d2=>?_,fun i hi=>?_⟩
  ·have:=empty hT a3 O d2;subst this;obtain⟨rfl,rfl⟩:=hr;exact hQ a w M pb ⟨hF,hI,hG,Pres.refl _ _ _ _,rfl⟩
  ·simp only [Region.ready,GG,EU,DX,AF,CH,EC]at hi;obtain⟨a6,G,Z⟩:=hi;obtain⟨p,hp,b5⟩:=(O.iff_ i a6).1 G;obtain⟨o,D⟩:=p;simp only at b5;subst b5;obtain⟨A,B',c1⟩:=List.append_of_mem hp;subst c1;have ho:ops[D]?=some o:=hT.at_ _ hp;have a5: ∀e∈o.after.toList,Region.binds .any e=true->g.getD e.on false=true:=by
    simp only [ho,DN,CS]at Z;rw [GC]at Z;intro e X V;have:=Z e (by simpa using X);simpa [V]using this
   have u:=IB.1 a3;have a7: ∀q∈A,pK ops q (o,D)=true:=fun q l=>u.2.2 q l (o,D) IP
   have c6: ∀j oj,(j<ops.length/\g.getD j true=true)->ops[j]?=some oj-> ∀e∈oj.after.toList,Region.binds .any e=true->(e.on<ops.length/\g.getD e.on true=true):=by
    intro j oj Y K e X V;have h1:=hR.back j oj K e X V;have h2:=O.clos j oj K Y.2 e X V;refine⟨IM,?_⟩
    rwa [uL g e.on (by rw [O.size];omega) true false]
   have b2:=Jk hR (P:=fun j=>j<ops.length/\g.getD j true=true) c6 (fun j Y=>⟨_,AA Y.1⟩) D o ho
    (fun e X V=>by
     have h1:=hR.back D o ho e X V;refine⟨IM,?_⟩;rw [uL g e.on (by rw [O.size];omega) true false];exact a5 e X V)
   have d1:=Zi b3 a9 hF.addr (fun q l=>by
    have b6:q∈A++(o,D)::B':=by simp [l]
    have b9:=hT.at_ q b6;have b7:q.2<ops.length:=(BB.1 b9).1;have d0:=(O.iff_ q.2 b7).2 ⟨q,b6,rfl⟩;have b4:(bef D).testBit q.2=false:=by
     cases V:(bef D).testBit q.2 with
     |false=>rfl
     |true=>
      have:=(b2 q.2 V).2;rw [d0]at this;simp at this
    refine⟨b4,?_⟩;rcases qJ (a7 q l)with z| ⟨_,_,z⟩
    ·exact hR.apart D o q.2 q.1 ho z b9 b4
    ·exact z) hr
   obtain⟨e,r1,r2,r3⟩:=d1;have c3:Todo ops n (A++B'):=by
    refine⟨fun q l=>hT.at_ q ?_,fun q l=>hT.dst q ?_⟩
    ·simp at l⊢;rcases l with l|l<;>simp [l]
    ·simp at l⊢;rcases l with l|l<;>simp [l]
   have c0:(A++B').Pairwise (fun p q=>pK ops p q=true):=IB.2 ⟨u.1,(GV.1 u.2.1).2,fun x hx y hy=>u.2.2 x hx y (by simp [hy])⟩;have b0: ∀q∈A,q.2≠D:=fun q l=>Cu (a7 q l)
   have b1: ∀q∈B',q.2≠D:=fun q l=>(Cu ((GV.1 u.2.1).1 q l)).symm
   have a4: ∀j,j<ops.length->(g.setIfInBounds D true).getD j true=if j=D then true else g.getD j true:=by
    intro j Y;simp only [CX,CW]
    by_cases hji:j=D
    ·subst hji;simp [O.size,Y]
    ·rw [if_neg (fun e=>hji e.symm),if_neg hji]
   have c2:Lst ops (A++B') (g.setIfInBounds D true):=by
    refine⟨by simpa using O.size,fun j Y=>?_,fun j oj K Y e X V=>?_⟩
    ·rw [a4 j Y]
     by_cases hji:j=D
     ·subst hji;simp only [if_true]
      constructor
      ·intro h;simp at h
      ·rintro⟨q,l,e⟩;simp only [CB]at l;rcases l with l|l
       ·exact absurd e (b0 q l)
       ·exact absurd e (b1 q l)
     ·rw [if_neg hji,O.iff_ j Y]
      constructor
      ·rintro⟨q,l,e⟩;simp only [CB,BQ]at l;rcases l with l|rfl|l
       ·exact⟨q,by simp [l],e⟩
       ·exact absurd e.symm hji
       ·exact⟨q,by simp [l],e⟩
      ·rintro⟨q,l,e⟩;simp only [CB]at l;rcases l with l|l
       ·exact⟨q,by simp [l],e⟩
       ·exact⟨q,by simp [l],e⟩
    ·have c7:j<ops.length:=(BB.1 K).1;have c9:=hR.back j oj K e X V;have d5:(g.setIfInBounds D true).size=ops.length:=by simpa using O.size
     rw [uL _ e.on IM false true,a4 _ IM]
     by_cases hei:e.on=D
     ·simp [hei]
     ·rw [if_neg hei];rw [uL g e.on (by rw [O.size];omega) true false];rw [a4 j c7]at Y
      by_cases hji:j=D
      ·subst hji;rw [ho]at K;simp at K;subst K;exact a5 e X V
      ·rw [if_neg hji]at Y;exact O.clos j oj K Y e X V
   have c8:ops.toArray[D]?=some o:=by simpa using ho
   simp only [wpOp,c8];refine Qk c5 hG hI hF hB (hT.dst (o,D) IP) r1 Q _ (fun a1 w1 M1 d3 hx=>?_);exact ih (A++B') _ _ _ _ _ _ _ (by simp at a0⊢;omega) r3 c3 c0 c2 M1 w1 a1 d3 hx.glob hx.inv hx.fr (BK hB hx.pres.size) (fun a2 w2 M2 d4 hy=>hQ a2 w2 M2 d4 (hx.trans' hy))
end
def Jl(ops:List Oper)(bef:Nat->Nat):Bool:=
 ops.zipIdx.all fun(o,i)=>
  o.after.toList.all (fun e=>!Region.binds .any e||decide (e.on<i)) &&
  (ops.zipIdx.all (fun(oa,a)=>!decide (a<i)|| (bef i).testBit a||Oper.apart ops.toArray oa o) &&
  iK (bef i) (o.after.toList.foldl (fun s e=>if Region.binds .any e then s|||Yp e.on|||bef e.on else s) 0))
theorem L9(bef:Nat->Nat)(a:Nat): ∀(l:List Edge)(s:Nat),(l.foldl (fun s e=>if Region.binds .any e then s|||Yp e.on|||bef e.on else s) s).testBit a=true->
  s.testBit a=true\/ ∃e∈l,Region.binds .any e=true/\(e.on=a\/ (bef e.on).testBit a=true)
 | [],s,h=> .inl h
 |e::l,s,h=>by
  simp only [GE]at h;rcases L9 bef a l _ h with h| ⟨e',i,h2⟩
  ·split at h
   ·rename_i g;simp only [FQ,CL,jO,decide_eq_true_eq]at h;rcases h with(h|h)|h
    ·exact .inl h
    ·exact .inr ⟨e,IP,g,.inl h⟩
    ·exact .inr ⟨e,IP,g,.inr h⟩
   ·exact .inl h
  ·exact .inr ⟨e',by simp [i],h2⟩
theorem uM{ops:List Oper}{i:Nat}{o:Oper}(h:ops[i]?=some o):(o,i) ∈ops.zipIdx:=by
 rw [EG];exact h
theorem Zj{ops:List Oper}{bef:Nat->Nat}(h:Jl ops bef=true):RegOk ops bef:=by
 unfold Jl at h;rw [CA]at h;have h': ∀i o,ops[i]?=some o->_:=fun i o g=>h (o,i) (uM g)
 simp only [AF,CA]at h';refine⟨fun i o g e A j=>?_,fun i o a G g l u p=>?_,fun i o a g j=>?_⟩
 ·have:=(h' i o g).1 e A;simpa [j]using this
 ·have:=(h' i o g).2.1 (G,a) (uM u);simpa [l,p]using this
 ·have D:=(hZ _ _).1 (h' i o g).2.2 a j;rcases L9 bef a _ _ D with h0|z
  ·simp at h0
  ·exact z
def gB(n:Nat):Code->Bool
 | .region _ ops draw=>ops.toList.all (fun o=>match o.dst with|some t=>decide (t<n)|none=>true) && (!draw||Jl ops.toList (zV ops))
 | .seq a b=>gB n a&&gB n b
 | .cond _ a b=>gB n a&&gB n b
 | .block _ c=>gB n c
 | .loop c=>gB n c
 | .scope c=>gB n c
 |_=>true
def Jm(fn:Func):Bool:=
 match fn.body with
 | some c => gB fn.ntmps c && !(fn.name == "runtime.NumGoroutine")
 |none=>true
def wM(P:Program):Bool:=P.funcs.toList.all Jm
def Ex.toExit:Ex->Exit
 | .normal=> .normal
 | .exit id=> .exit id
 | .ret=> .ret
section
variable {E:Env} {f:FuncId} {cf:FuncId->Y14->Heap->Option (IV×Heap)} {N B n:Nat}
theorem Zk{ops:List Oper}(hd:ops.all (fun o=>match o.dst with|some t=>decide (t<n)|none=>true)=true):Todo ops n ops.zipIdx:=by
 refine⟨fun p g=>?_,fun p g t j=>?_⟩
 ·obtain⟨o,i⟩:=p;exact(EG).1 g
 ·obtain⟨o,i⟩:=p;have l:=(EG).1 g;rw [CA]at hd;have:=hd o (CR l);simp only at j;rw [j]at this;simpa using this
theorem Zl(ops:List Oper):ops.zipIdx.Pairwise (fun p q=>pK ops p q=true):=by
 rw [HH];intro i j hi l g;simp only [List.getElem_zipIdx,pK,CL];exact .inl (Nat.ble_eq_true_of_le IM)
theorem uN{ops:List Oper}{l:List Nat}{p:Oper×Nat} :p∈xX ops l ↔ p.2∈l/\ops[p.2]?=some p.1:=by
 unfold xX
 simp only [GU,AD]
 constructor
 ·rintro⟨i,hi,o,j,rfl⟩;exact⟨hi,j⟩
 ·rintro⟨g,h2⟩;exact⟨p.2,g,p.1,h2,rfl⟩
theorem Jn(l:List Nat)(draw:Bool)(ops:List Oper):wB l draw ops=ops.zipIdx\/ (draw=true/\wB l draw ops=xX ops l/\l.length<=ops.length/\(∀j,j<ops.length->j∈l)/\zW ops (xX ops l)=true):=by
 unfold wB
 split
 ·rename_i i r;split
  ·rename_i h;simp only [AF,CA,EU]at h;exact .inr ⟨rfl,rfl,CC h.1.1,fun j g=>by simpa using h.1.2 j g,h.2⟩
  ·exact .inl rfl
 ·exact .inl rfl
theorem b4A(ops:List Oper):ops.zipIdx.map (·.2)=List.range ops.length:=by
 apply DL;intro i
 by_cases h:i<ops.length
 ·simp [h,GP]
 ·simp [h]
theorem M4(ops:List Oper):Lst ops ops.zipIdx (Array.replicate ops.length false):=by
 refine⟨IP,fun i hi=>?_,fun j o l p=>?_⟩
 ·simp only [CX,HO,hi,if_true,CS,true_iff];exact⟨(ops[i],i),uM (AA hi),rfl⟩
 ·have g:=(BB.1 l).1;simp [CX,g]at p
theorem Zm{ops:List Oper}{l:List Nat}(h: ∀j,j<ops.length->j∈l):Lst ops (xX ops l) (Array.replicate ops.length false):=by
 have h0:=M4 ops;refine⟨h0.size,fun i hi=>?_,h0.clos⟩;rw [h0.iff_ i hi]
 constructor
 ·rintro⟨q,g,e⟩;exact⟨q,uN.2 ⟨by rw [e];exact h i hi,(EG).1 g⟩,e⟩
 ·rintro⟨q,g,e⟩;exact⟨q,uM (uN.1 g).2,e⟩
theorem Wj{ops:List Oper}{l:List Nat}(h:Todo ops n ops.zipIdx):Todo ops n (xX ops l):=
 ⟨fun _ g=>(uN.1 g).2,fun p g=>h.dst p (uM (uN.1 g).2)⟩
structure Sim(E:Env)(B n:Nat)(M:Meta)(h:Heap)(w:World)(fr:Fr)(a:Act)(pb:Nat->Nat):Prop where
 glob:Cp E M
 inv:Inv M h w
 fr:FR M h w B n fr.ff a pb
 le:B<=w.heap.size
theorem Nxt.sim{M M':Meta}{h h':Heap}{w w':World}{g:Fr}{a j:Act}{i:Nat->Nat}(x:Nxt E B n M h w a g.ff h' j w' M' i)(l:B<=w.heap.size):Sim E B n M' h' w' g j i:=⟨x.glob,x.inv,x.fr,BK l x.pres.size⟩
theorem FR.forget1{M:Meta}{h:Heap}{w:World}{g:Fr}{a:Act}{pb:Nat->Nat}(s:Nat)(j:FR M h w B n g.ff a pb):FR M h w B n (Fr.ff {tm:=g.tm.filt (qA s),lv:=g.lv.set s none }) a pb:=by
 have l: ∀k tv,(g.tm.filt (qA s)).get k=some tv->g.tm.get k=some tv/\qA s tv=true:=by
  intro k tv e;rw [PT.get_filt]at e;split at e
  ·rename_i x Y;split at e
   ·rename_i X;simp only [AC]at e;subst e;exact⟨Y,X⟩
   ·cases e
  ·cases e
 have i: ∀t cs,(g.lv.set s none).get t=some cs->t≠s/\g.lv.get t=some cs:=by
  intro t cs e;rw [PT.get_set]at e;split at e
  ·cases e
  ·rename_i V;exact⟨V,e⟩
 refine⟨j.size,fun k tv e=>j.tm k tv (l k tv e).1,fun t cs e=>j.loc t cs (i t cs e).2,fun t D z A G K L=>j.one t D z A (i t z G).2 (i D A K).2 L,fun k t u e=>?_⟩;obtain⟨O,h2⟩:=l k _ e;have p:t≠s:=by simpa [qA]using h2
 obtain⟨cs,T⟩:=j.addr k t u O;refine⟨cs,?_⟩;show(g.lv.set s none).get t=some cs;rw [PT.get_set,if_neg p];exact T
theorem FR.forget{M:Meta}{h:Heap}{w:World}{a:Act}{pb:Nat->Nat} : ∀(l:List Nat){g:Fr},FR M h w B n g.ff a pb->FR M h w B n (g.forget l).ff a pb
 | [],_,hF=>hF
 |s::r,_,hF=>FR.forget r (hF.forget1 s)
theorem FR.start{M:Meta}{h:Heap}{w:World}{a:Act}{pb:Nat->Nat}{g:Fr}{f:FuncId}{ops:List Oper}{draw:Bool}(i:FR M h w B n g.ff a pb):FR M h w B n (g.start E f ops draw).ff a pb:=by
 unfold Fr.start
 split
 ·exact FR.forget _ i
 ·exact i
def d0M(E:Env)(B n:Nat)(c:Code)(j:Fr)(h:Heap)(i:Ex)(g:Fr)(h':Heap):Prop:=
 ∀M w a pb,Sim E B n M h w j a pb-> ∀Q:Exit->Act->World->Prop,(∀a' w' M' pb',Nxt E B n M h w a g.ff h' a' w' M' pb'->Q i.toExit a' w')->c.wp E.P Q a w
theorem Jo(O:Cq E cf)(T:pL E cf)(hm:E.P.follows .mixedOrders=true){id:Nat}{ops:Array Oper}{draw:Bool}{X l:Fr}{h h':Heap}(A:gB n (.region id ops draw)=true)
  (hr:kZ E f cf ops.toList draw (zV ops) (E.an f id) (Ix h.next (E.an f id)) (wB (E.od f id) draw ops.toList) {} [] X (h.reserve (E.an f id).length)=some (l,h')):d0M E B n (.region id ops draw) X h .normal l h':=by
 intro M0 w a pb i Q a2;obtain⟨M,a0,u⟩:=i.inv.reserve (E.an f id).length;have hs:Sim E B n M (h.reserve (E.an f id).length) w X a pb:=⟨i.glob.mono u.ext,a0,i.fr.step u,i.le⟩;have hQ: ∀K w' M' j,Nxt E B n M (h.reserve (E.an f id).length) w a l.ff h' K w' M' j->Q Ex.normal.toExit K w':=fun K w' M' j g=>a2 K w' M' j ⟨g.fr,g.inv,g.glob,(u.mono i.le).trans g.pres,g.defers⟩
 simp only [gB,AF]at A;have G:=Qi (E:=E) (f:=f) (cf:=cf) (ops:=ops.toList) (bef:=zV ops) hr;have L:=Zk A.1
 cases draw with
 |false=>
  refine wp_region ?_;rw [show wB (E.od f id) false ops.toList=ops.toList.zipIdx from rfl]at G;have:=Ct (ops:=ops.toList) O Q _ _ _ _ _ _ _ G L M w a pb hs.glob hs.inv hs.fr hs.le hQ;rw [b4A]at this;simpa using this
 |true=>
  refine wp_region_any hm ?_;have hR:=Zj (by simpa using A.2);have Z:=hs.inv.drew;have Y:FR M (h.reserve (E.an f id).length) w.drew B n X.ff a pb:=⟨hs.fr.size,hs.fr.tm,hs.fr.loc,hs.fr.one,hs.fr.addr⟩;have a1:Todo ops.toList n (wB (E.od f id) true ops.toList)/\(wB (E.od f id) true ops.toList).Pairwise (fun p q=>pK ops.toList p q=true)/\Lst ops.toList (wB (E.od f id) true ops.toList) (Array.replicate ops.toList.length false)/\(wB (E.od f id) true ops.toList).length<=ops.toList.length:=by
   rcases Jn (E.od f id) true ops.toList with z| ⟨_,z,z0,z1,z2⟩
   ·rw [z];exact⟨L,Zl _,M4 _,IP⟩
   ·rw [z];exact⟨Wj L,L8 z2,Zm z1,BK (List.length_filterMap_le _ _) z0⟩
  obtain⟨L,D,hL,V⟩:=a1;have:=b3Z (ops:=ops.toList) (fun _ _ e=>Cs e) O T hR Q ops.toList.length _ _ _ _ _ _ _ _ V G L D hL M w.drew a pb hs.glob Z Y hs.le (fun K w' M' j g=>hQ K w' M' j
   ⟨g.fr,g.inv,g.glob,⟨g.pres.ext,g.pres.size,g.pres.os,g.pres.tape,g.pres.output,g.pres.keep⟩,g.defers⟩)
  simpa using this
theorem Zn(a4:Cq E cf)(a0:pL E cf)(hm:E.P.follows .mixedOrders=true): ∀(c:Code),gB n c=true-> ∀(A:Fr)(h:Heap)(z:Ex)(j:Fr)(h':Heap),dP E f cf N c A h=some (z,j,h')->d0M E B n c A h z j h':=by
 intro c
 induction c with
 |skip=>
  intro i A h z j h' g;simp [dP]at g;obtain⟨rfl,rfl,rfl⟩:=g;intro M w a pb hs Q u;exact wp_skip (u a w M pb ⟨hs.fr,hs.inv,hs.glob,Pres.refl _ _ _ _,rfl⟩)
 |region id ops draw=>
  intro i A h z j h' g;simp only [dP]at g;split at g
  case h_2=>simp at g
  rename_i X h1 O;simp at g;obtain⟨rfl,rfl,rfl⟩:=g;exact fun M w a pb hs Q u=>Jo a4 a0 hm i O M w a pb ⟨hs.glob,hs.inv,hs.fr.start,hs.le⟩ Q u
 |seq x y ihx ihy=>
  intro i A h z j h' g;simp only [gB,AF]at i;simp only [dP]at g;intro M w a pb hs Q u;refine wp_seq ?_;split at g
  ·rename_i X h1 O;refine ihx i.1 _ _ _ _ _ O M w a pb hs _ (fun D G L p K=>?_);show y.wp E.P Q D G;refine ihy i.2 _ _ _ _ _ g L G D p (K.sim hs.le) Q (fun a2 w2 M2 Z hy=>u a2 w2 M2 Z (K.trans' hy))
  ·rename_i T;refine ihx i.1 _ _ _ _ _ g M w a pb hs _ (fun D G L p K=>?_);have V:=u D G L p K
   cases z with
   |normal=>exact absurd g (T _ _)
   |exit id=>exact V
   |ret=>exact V
 |cond c x y ihx ihy=>
  intro i A h z j h' g;simp only [gB,AF]at i;simp only [dP]at g;intro M w a pb hs Q u;split at g
  ·rename_i O;have hv:VR M (.bool true) (a.eval c):=Qj hs.glob hs.fr c _ O;generalize hc:a.eval c=r at hv
   cases hv
   exact wp_cond_true hc (ihx i.1 _ _ _ _ _ g M w a pb hs Q u)
  ·rename_i O;have hv:VR M (.bool false) (a.eval c):=Qj hs.glob hs.fr c _ O;generalize hc:a.eval c=r at hv
   cases hv
   exact wp_cond_false hc (ihy i.2 _ _ _ _ _ g M w a pb hs Q u)
  ·simp at g
 |block id x ihx=>
  intro i A h z j h' g;simp only [gB]at i;simp only [dP]at g;intro M w a pb hs Q u;refine wp_block ?_;split at g
  ·rename_i a3 X h1 O;refine ihx i _ _ _ _ _ O M w a pb hs _ (fun D G L p K=>?_);show(if a3=id then Q .normal D G else Q (.exit a3) D G);split at g
   ·rename_i Y;simp at g;obtain⟨rfl,rfl,rfl⟩:=g;rw [if_pos Y];exact u D G L p K
   ·rename_i Y;simp at g;obtain⟨rfl,rfl,rfl⟩:=g;rw [if_neg Y];exact u D G L p K
  ·rename_i T;refine ihx i _ _ _ _ _ g M w a pb hs _ (fun D G L p K=>?_);have V:=u D G L p K
   cases z with
   |normal=>exact V
   |exit id=>exact absurd g (T _ _ _)
   |ret=>exact V
 |loop x ihx=>
  intro i A h z j h' g;simp only [gB]at i;simp only [dP]at g;intro M w a pb hs Q u;refine wp_loop_rounds N ?_;have a5: ∀(k:Nat)(A:Fr)(h:Heap),iM (dP E f cf N x) k A h=some (z,j,h')-> ∀M w a pb,Sim E B n M h w A a pb->
    (∀a' w' M' pb',Nxt E B n M h w a j.ff h' a' w' M' pb'->Q z.toExit a' w')->Code.rounds E.P x Q k a w:=by
   intro k
   induction k with
   |zero=>intro A h g;simp [iM]at g
   |succ k ihk=>
    intro A h g M w a pb hs u;rw [rounds_succ];unfold iM at g;split at g
    ·rename_i X h1 O;refine ihx i _ _ _ _ _ O M w a pb hs _ (fun D G L p K=>?_);show Code.rounds E.P x Q k D G;exact ihk X h1 g L G D p (K.sim hs.le) (fun a2 w2 M2 Z hy=>u a2 w2 M2 Z (K.trans' hy))
    ·rename_i T;refine ihx i _ _ _ _ _ g M w a pb hs _ (fun D G L p K=>?_);have V:=u D G L p K
     cases z with
     |normal=>exact absurd g (T _ _)
     |exit id=>exact V
     |ret=>exact V
  exact a5 N A h g M w a pb hs u
 |rangeFunc f ps x y ihx ihy=>
  intro i A h z j h' g;simp [dP]at g
 |exit id=>
  intro i A h z j h' g;simp [dP]at g;obtain⟨rfl,rfl,rfl⟩:=g;intro M w a pb hs Q u;exact wp_exit (u a w M pb ⟨hs.fr,hs.inv,hs.glob,Pres.refl _ _ _ _,rfl⟩)
 |scope x ihx=>
  intro i A h z j h' g;simp only [gB]at i;simp only [dP]at g;intro M w a pb hs Q u;refine wp_scope_straight ?_;refine ihx i _ _ _ _ _ g M w a pb hs _ (fun D G L p K=>?_);have V:=u D G L p K
  cases z<;>exact V
 |label l=>
  intro i A h z j h' g;simp [dP]at g
 |goto l=>
  intro i A h z j h' g;simp [dP]at g
 |ret=>
  intro i A h z j h' g;simp [dP]at g;obtain⟨rfl,rfl,rfl⟩:=g;intro M w a pb hs Q u;exact wp_ret (u a w M pb ⟨hs.fr,hs.inv,hs.glob,Pres.refl _ _ _ _,rfl⟩)
 |refuse s=>
  intro i A h z j h' g;simp [dP]at g
def Wk(g:Array Value):ResultVar->Sem Value
 | .tmp t=>pure (g.getD t undef)
 | .cell a t=>do loadVar t (<-asAddr (g.getD a undef))
theorem Jp(fn:Func)(g:Array Value):results fn g=(do let vs<-fn.results.mapM (Wk g);pure (if h:vs.size=1 then vs[0]else .tuple vs)):=rfl
theorem M5{M:Meta}{h:Heap}{w:World}{K:Fr}{a:Act}{pb:Nat->Nat}(hs:Sim E B n M h w K a pb): ∀{rs:List ResultVar}{vs:Y14},gT E.P K h rs=some vs->
  ∃rv:List Value,(rs.mapM (Wk a.tmps)).run E.P w= .ok rv w/\cX M vs rv
 | [],vs,hr=>by simp [gT]at hr;subst hr;exact⟨[],rfl,cX.nil M⟩
 |r::rs,vs,hr=>by
  unfold gT at hr;split at hr
  case h_2=>simp at hr
  rename_i v a0 g h2;simp at hr;subst hr;obtain⟨rv,L,O⟩:=M5 hs h2;have p: ∃q,(Wk a.tmps r).run E.P w= .ok q w/\VR M v q:=by
   cases r with
   |tmp t=>
    simp only [tX]at g;exact⟨_,rfl,hs.fr.tm t _ (A1 g)⟩
   |cell ad t=>
    simp only [tX]at g;split at g
    ·rename_i s l j;split at g
     case h_2=>simp at g
     rename_i cs z;have u:a.tmps.getD ad undef= .pointer (some ⟨pb s,l,none⟩):=hs.fr.tm ad _ j;obtain⟨_,_,_,rc,el,fz,Y,k5,Z⟩:=hs.fr.loc s cs z;obtain⟨q,A,D⟩:=uA (P:=E.P) (w:=w) (b:=pb s) (base:=0) Z (fun i hi=>by simp [World.cell?,Y,show i<rc.size by simpa using hi]) g;refine⟨q,?_,D⟩;simp only [Wk,u,asAddr,AU,AZ,AL];simpa using A
    ·rename_i id l j;split at g
     case h_2=>simp at g
     rename_i cs X;have u:VR M (.ptr id l) (a.tmps.getD ad undef):=hs.fr.tm ad _ j;generalize hq:a.tmps.getD ad undef=pr at u
     cases u with
     | @ptr _ _ b hl=>
      obtain⟨b',rc,G,l2,l3,l4,l5⟩:=hs.inv.row X;rw [hl]at G;simp at G;subst G;obtain⟨q,A,D⟩:=uA (P:=E.P) l4 l5 g;refine⟨q,?_,D⟩;simp only [Wk,hq,asAddr,AU,AZ,AL];simpa using A
    ·simp at g
  obtain⟨q,T,V⟩:=p;refine⟨q::rv,?_,cX.cons V O⟩;simp only [HX,AU,T,AL,L,AZ]
def A4(rv:List Value):Value:=if h:rv.toArray.size=1 then rv.toArray[0]else .tuple rv.toArray
theorem Cv{M:Meta}{vs:Y14}{rv:List Value}(h2:cX M vs rv):VR M (iN vs) (A4 rv):=by
 unfold A4
 have g:=h2.1
 cases vs with
 |nil=>
  cases rv with
  |nil=>exact dV h2
  |cons _ _=>simp at g
 |cons v vs'=>
  cases rv with
  |nil=>simp at g
  |cons q rv'=>
   cases vs' with
   |nil=>
    cases rv' with
    |nil=>
     have:=h2.2 0 IP IP;simpa [iN]using this
    |cons _ _=>simp at g
   |cons v2 vs2=>
    cases rv' with
    |nil=>simp at g
    |cons q2 rv2=>
     have: ¬ ((q::q2::rv2).toArray.size=1):=IP;rw [dif_neg this];exact dV h2
theorem Jq{M:Meta}{h:Heap}{w:World}{g:Fr}{a:Act}{pb:Nat->Nat}(hs:Sim E B n M h w g a pb){fn:Func}{vs:Y14}(l:gT E.P g h fn.results.toList=some vs):
  ∃rv,(results fn a.tmps).run E.P w= .ok (A4 rv) w/\cX M vs rv:=by
 obtain⟨rv,i,h2⟩:=M5 hs l;have j:(fn.results.mapM (Wk a.tmps)).run E.P w= .ok rv.toArray w:=by
  rw [HD];simp only [Sem.run_map];rw [i];rfl
 refine⟨rv,?_,h2⟩;rw [Jp];simp only [AU,j,AL,AZ];rfl
theorem qK: ∀(g:Y14)(i:Nat)(t:PT TV)(k:Nat),(jK g i t).get k=if i<=k/\k<i+g.length then(g[k-i]?).map .v else t.get k
 | [],i,t,k=>by
  rw [if_neg (by simp only [AY];omega)];rfl
 |v::r,i,t,k=>by
  unfold jK
  rw [qK r (i+1) _ k,PT.get_set]
  by_cases h1:k=i
  ·subst h1;rw [if_neg IM,if_pos rfl,if_pos ⟨AJ _,IP⟩];simp
  ·by_cases h2:i+1<=k/\k<i+1+r.length
   ·rw [if_pos h2,if_pos ⟨IM,by simp;omega⟩];rw [show k-i=(k- (i+1))+1 by omega];simp
   ·rw [if_neg h2,if_neg h1,if_neg (by simp;omega)]
theorem Cw{cf:FuncId->Y14->Heap->Option (IV×Heap)}(T:Cq E cf)(D:pL E cf)(hm:E.P.follows .mixedOrders=true){g:FuncId}{fn:Func}{c:Code}(X:E.P.funcs[g]?=some fn)(A:fn.body=some c)(Y:gB fn.ntmps c=true)
  {xs vs:Y14} {h h1:Heap} (hr:gZ E g cf N fn.results.toList c xs h=some (vs,h1)) {M:Meta} {w:World} {rs:List Value} (hI:Inv M h w) (hG:Cp E M) (hrs:cX M xs rs):
  Calls E.P g rs.toArray w fun e w'=> ∃rv M',e= .returned (A4 rv)/\cX M' vs rv/\Inv M' h1 w'/\Pres w.heap.size M h w M' h1 w':=by
 have fin: ∀(O:Ex)(z:Fr),(O= .normal\/O= .ret)->dP E g cf N c ⟨jK xs 0 .nil,.nil⟩ h=some (O,z,h1)->gT E.P z h1 fn.results.toList=some vs->
   Calls E.P g rs.toArray w fun e w'=> ∃rv M',e= .returned (A4 rv)/\cX M' vs rv/\Inv M' h1 w'/\Pres w.heap.size M h w M' h1 w':=by
  intro O z V i K;refine calls_of_wp X A ?_;have a0:xs.length=rs.length:=hrs.1;have G: ∀t,((rs.toArray++Array.replicate (fn.ntmps-rs.toArray.size) undef).getD t undef)=(rs[t]?).getD undef:=by
   intro t;rw [CX]
   by_cases u:t<rs.length
   ·rw [HA (by simpa using u)];simp
   ·rw [Array.getElem?_append_right (by simp;omega)];simp only [BG (Nat.le_of_not_lt u),Option.getD_none,HO];split<;>rfl
  have Z:Sim E w.heap.size fn.ntmps M h w ⟨jK xs 0 .nil,.nil⟩ {tmps:=rs.toArray++Array.replicate (fn.ntmps-rs.toArray.size) undef,defers:=[] } (fun _=>0):=by
   refine⟨hG,hI,⟨by simp;omega,fun t tv u=>?_,fun s cs e=>by simp [Fr.ff,PT.get]at e,fun s s' c1 c2 e=>by simp [Fr.ff,PT.get]at e,fun k s a1 e=>by
    simp only [Fr.ff,qK]at e;split at e
    ·obtain⟨x,_,h2⟩:=AD.1 e;cases h2
    ·simp [PT.get]at e⟩,AJ _⟩
   simp only [Fr.ff,qK]at u;rw [G];split at u
   ·rename_i hb;simp only [HP]at u;obtain⟨x,p,rfl⟩:=AD.1 u;obtain⟨r,j,l⟩:=hrs.get p;rw [j];exact l
   ·simp [PT.get]at u
  refine Zn (B:=w.heap.size) T D hm c Y _ _ _ _ _ i M w _ _ Z _ (fun a' w' M' a2 p=>?_);obtain⟨rv,j,l⟩:=Jq (p.sim (AJ _)) K;rcases V with rfl|rfl
  ·exact⟨p.defers,A4 rv,j,rv,M',rfl,l,p.inv,p.pres⟩
  ·exact⟨p.defers,A4 rv,j,rv,M',rfl,l,p.inv,p.pres⟩
 unfold gZ at hr;split at hr
 ·rename_i z h' i;obtain⟨q,q1,L⟩:=AD.1 hr;simp only [BY]at L;obtain⟨rfl,rfl⟩:=L;exact fin .normal z (.inl rfl) i q1
 ·rename_i z h' i;obtain⟨q,q1,L⟩:=AD.1 hr;simp only [BY]at L;obtain⟨rfl,rfl⟩:=L;exact fin .ret z (.inr rfl) i q1
 ·cases hr
theorem Zo{M u:Meta}{h h2:Heap}{w w':World}(a:Inv M h w)(hi:Inv u h2 w')(z:Pres w.heap.size M.pure Heap.empty w u h2 w'):
  ∃M3,Inv M3 h w'/\Pres w.heap.size M h w M3 h w'/\(∀b o v,u.im b o=some v->M3.im b o=some v)/\(∀b n,u.bsz b=some n->M3.bsz b=some n):=by
 have G: ∀b,b<w.heap.size->w'.heap[b]?=w.heap[b]?/\∀o,u.im b o=M.im b o:=fun b i=>by
  obtain⟨D,_,Z⟩:=z.keep b i (by rintro⟨id,e⟩;simp [Wb,Heap.empty,Heap.get,PT.get]at e);exact⟨D,Z⟩
 let M3:Meta:= {M with im:=fun b o=>if b<w.heap.size then M.im b o else u.im b o,bsz:=fun b=>match M.bsz b with|some n=>some n|none=>u.bsz b }
 have g: ∀b o,b<w.heap.size->M3.im b o=M.im b o:=fun b o i=>if_pos i
 have L:Ext M M3:=⟨AJ _,fun _ _ e=>e,fun b o v e=>by
  have i:b<w.heap.size:=by
   have:=a.im b o v e;unfold World.cell? at this;rcases BC b w.heap.size with q|q
   ·exact q
   ·simp [Array.getElem?_eq_none q]at this
  rw [g b o i];exact e,fun b n e=>by simp [M3,e],fun _ _=>AJ _,fun _ _ _=>rfl⟩
 have O: ∀b n,M.bsz b=some n->M3.bsz b=M.bsz b:=fun b n e=>by simp [M3,e]
 have j: ∀{b rc},Blk M w b rc->Blk M3 w' b rc:=fun l=>l.keep (G _ l.lt).1 (O _ _ l.bsz)
 refine⟨M3,⟨a.nid,a.fresh,a.freshl,fun id cs e=>?_,fun id n e=>?_,fun id Y e=>?_,fun b o v e=>?_,fun b n e=>?_,a.one,a.resv⟩,⟨L,z.size,z.os,z.tape,z.output,fun b i hn=>⟨(G b i).1,hn,fun o=>g b o i⟩⟩,fun b o v e=>?_,fun b n e=>?_⟩
 ·obtain⟨b,rc,K,p,A,V,l5⟩:=a.cells id cs e;exact⟨b,rc,K,j p,A,V.mono L,fun o=>by rw [g b o p.lt];exact l5 o⟩
 ·obtain⟨l0,b,e',rc,K,p,A,V⟩:=a.tips id n e;exact⟨l0,b,e',rc,K,j p,A,fun o ho=>by rw [g b o p.lt];exact V o ho⟩
 ·obtain⟨b,ents,X,K,p,A⟩:=a.maps id Y e;exact⟨b,ents,X,K,(G b (cW p)).1.trans p,⟨A.1.1.mono L,A.1.2.mono L⟩,A.2⟩
 ·simp only [M3]at e;split at e
  ·rename_i i;have D:=a.im b o v e;unfold World.cell? at D⊢;simp only at D⊢;rw [(G b i).1];exact D
  ·exact hi.im b o v e
 ·simp only [M3]at e;split at e
  ·rename_i m T;have:=a.bsz b m T;have:=z.size;omega
  ·exact hi.bsz b n e
 ·simp only [M3];split
  ·rename_i i;rw [<- (G b i).2 o];exact e
  ·exact e
 ·simp only [M3];split
  ·rename_i m T;have:=z.ext.bsz b m T;rw [this]at e;exact e
  ·exact e
theorem b4B{M:Meta}{h:Heap}{w:World}(a:Inv M h w):Inv M.pure Heap.empty w where
 nid:=rfl
 fresh:=fun id _=>by simp [Heap.empty,Heap.get,PT.get]
 freshl:=fun _ _=>rfl
 cells:=fun id cs e=>by simp [Heap.empty,Heap.get,PT.get]at e
 tips:=fun id n e=>by simp [Heap.empty,Heap.get,PT.get]at e
 maps:=fun id i e=>by simp [Heap.empty,Heap.get,PT.get]at e
 im:=a.im
 bsz:=a.bsz
 one:=fun id g b e _=>by simp [Wb,Heap.empty,Heap.get,PT.get]at e
 resv:=fun id e=>by simp [Heap.empty,Heap.get,PT.get]at e
theorem Cx(E:Env): ∀N,pL E (iP E N)
 |0=>fun g hi xs h v h' i=>by simp [iP]at i
 |N+1=>fun g hi xs h v h' i=>by
  rw [iB]at i;split at i
  case h_2=>simp at i
  rename_i fn l;split at i
  case h_2=>simp at i
  rename_i c j;simp only [hi]at i;split at i
  case isFalse=>simp at i
  rename_i p;split at i
  case h_2=>simp at i
  rename_i vs D A;obtain⟨G,u,z⟩:=AD.1 i;simp only [BY]at z;obtain⟨rfl,rfl⟩:=z;refine⟨rfl,fun h2=>?_⟩;rw [iB];simp only [l,j,hi,p,A,u,if_true,DN]
theorem Cy(hm:E.P.follows .mixedOrders=true)(V:wM E.P=true): ∀N,Cq E (iP E N)
 |0=>fun g xs h v h' j=>by simp [iP]at j
 |N+1=>fun g xs h v h' j=>by
  have ih:=Cy hm V N;rw [iB]at j;split at j
  case h_2=>simp at j
  rename_i fn u;split at j
  case h_2=>simp at j
  rename_i c i;have l:Jm fn=true:=by
   unfold wM at V;rw [CA]at V;have:fn∈E.P.funcs.toList:=by
    rw [<-Array.getElem?_toList]at u;exact CR u
   exact V fn this
  unfold Jm at l;rw [i]at l;simp only [AF,CH]at l;refine⟨⟨fn,u,by simp [i],l.2⟩,fun M w rs hI hG K=>?_⟩;split at j
  ·split at j
   case h_2=>simp at j
   rename_i vs L hb;refine(Cw ih (Cx E N) hm u i l.1 hb hI hG (Qe (E:=E) (f:=g) (ts:=fn.params.toList) K)).mono fun e w'=>?_
   rintro⟨rv,M',h2,O,T,G⟩;obtain⟨z,g1,g2,g3⟩:=Jg E g T (Cv (Qe (E:=E) (f:=g) (ts:=fn.resultTypes.toList) O));simp only [AC]at j;rw [j]at g1 g2 g3;exact⟨_,z,h2,g3,g1,G.trans (g2.mono G.size)⟩
  ·split at j
   case isFalse=>simp at j
   rename_i a3;split at j
   case h_2=>simp at j
   rename_i vs L hb;obtain⟨v',p,hq⟩:=AD.1 j;simp only [BY]at hq;obtain⟨rfl,rfl⟩:=hq;have D:cX M.pure (gS E.P fn.params.toList xs) rs:=Cg (M:=M) (M':=M.pure) (fun _ _ _ e=>e) (fun _ _ e=>e) (tZ K) a3;have a0:Cp E M.pure:=fun g cs e=>(show VR M.pure.pure (.vref cs 0) _ from hG g cs e)
   refine(Cw ih (Cx E N) hm u i l.1 hb (b4B hI) a0 D).mono fun e w'=>?_
   rintro⟨rv,M',h2,O,T,G⟩;have a1: ∃z A,Inv z A w'/\Pres w.heap.size M.pure Heap.empty w z A w'/\cX z (zY E g vs L) rv:=by
    unfold zY
    split
    ·obtain⟨z,X,Y,Z,_⟩:=zK (b3P E g) vs M' L w' rv T O;exact⟨z,_,X,G.trans (Y.mono G.size),Z⟩
    ·exact⟨M',L,T,G,O⟩
   obtain⟨z,A,X,Y,Z⟩:=a1;obtain⟨M3,d1,d2,d3,d4⟩:=Zo hI X Y;unfold R9 at p;simp only at p;split at p
   case isFalse=>cases p
   rename_i a2;simp only [AC]at p;subst p;exact⟨_,M3,h2,Cv (Cg d3 d4 (tZ Z) a2),d1,d2⟩
end
section
variable {E:Env} {f:FuncId} {cf cf':FuncId->Y14->Heap->Option (IV×Heap)} {ops:List Oper} {draw:Bool} {bef:Nat->Nat}
def Cz(cf cf':FuncId->Y14->Heap->Option (IV×Heap)):Prop:= ∀g xs h r,cf g xs h=some r->cf' g xs h=some r
theorem M6(i:Cz cf cf'){o:Oper}{ev:Operand->Option TV}{lv:Nat->Option (Y14)}{h:Heap}{e:Ef}(g:dX E f cf draw o ev lv h=some e):dX E f cf' draw o ev lv h=some e:=by
 unfold dX at g⊢
 cases hp:eA E f o ev with
 |some q=>simp only [hp]at g⊢;exact g
 |none=>
 simp only [hp]at g⊢
 cases hl:fR E o ev lv with
 |some q=>simp only [hl]at g⊢;exact g
 |none=>
 simp only [hl]at g⊢
 cases hs:gJ E o ev lv with
 |some q=>simp only [hs]at g⊢;exact g
 |none=>
 simp only [hs]at g⊢
 cases hr:dO E o ev h with
 |some q=>simp only [hr]at g⊢;exact g
 |none=>
 simp only [hr]at g⊢
 cases hee:fZ E f o ev h with
 |some q=>simp only [hee]at g⊢;exact g
 |none=>
 simp only [hee]at g⊢
 cases hcl:dM o ev with
 |none=>simp only [hcl]at g;cases g
 |some q=>
 simp only [hcl]at g⊢
 cases hcf:cf q.1 q.2 h with
 |none=>simp only [hcf]at g;cases g
 |some r=>simp only [hcf,i _ _ _ _ hcf]at g⊢;exact g
theorem Zp(j:Cz cf cf'){o:Oper}{i:Nat->Option TV}{lv:Nat->Option (Y14)}{h:Heap}{e:Ef}(g:sS E f cf ops draw o i lv h=some e):sS E f cf' ops draw o i lv h=some e:=by
 unfold sS at g⊢;split at g
 ·cases g
 ·exact g
 ·exact M6 j g
theorem M7(j:Cz cf cf'){rs:Y10}{o:Oper}{i:Nat->Option TV}{lv:Nat->Option (Y14)}{h:Heap}{e:Ef}(g:dK E f cf ops draw rs o i lv h=some e):dK E f cf' ops draw rs o i lv h=some e:=by
 cases rs with
 |none=>exact Zp j g
 |some n=>exact g
theorem qL(z:Cz cf cf'){u:List Nat}{rs:Nat->Y10} : ∀{l:List (Oper×Nat)}{m:Met}{p:Pd}{g:Fr}{h:Heap}{r:Fr×Heap},kZ E f cf ops draw bef u rs l m p g h=some r->kZ E f cf' ops draw bef u rs l m p g h=some r
 | [],_,_,_,_,_,he=>he
 | (o,i)::l,m,p,g,h,r,he=>by
  unfold kZ at he⊢;split at he
  ·rename_i e j;simp only [M7 z j];split at he
   ·rename_i A;rw [if_pos A];exact qL z he
   ·cases he
  ·cases he
theorem oN{i g:Fr->Heap->Option (Ex×Fr×Heap)}(p: ∀j h r,i j h=some r->g j h=some r): ∀{n m:Nat}{j:Fr}{h:Heap}{r:Ex×Fr×Heap},n<=m->iM i n j h=some r->iM g m j h=some r
 |0,_,_,_,_,_,he=>by simp [iM]at he
 |n+1,0,_,_,_,hn,_=>IM
 |n+1,m+1,j,h,r,hn,he=>by
  unfold iM at he⊢;split at he
  ·rename_i l h' u;simp only [p _ _ _ u];exact oN p (FZ hn) he
  ·rename_i A;rw [p _ _ _ he];split
   ·rename_i l h' z
    cases z
    exact absurd he (A _ _)
   ·rfl
theorem rR(z:Cz cf cf'){n m:Nat}(A:n<=m): ∀{c:Code}{i:Fr}{h:Heap}{r:Ex×Fr×Heap},dP E f cf n c i h=some r->dP E f cf' m c i h=some r:=by
 intro c
 induction c with
 |region id ops draw=>
  intro i h r g;simp only [dP]at g⊢;split at g
  ·rename_i j h' D;simp only [qL z D];exact g
  ·cases g
 |seq a b iha ihb=>
  intro i h r g;simp only [dP]at g⊢;split at g
  ·rename_i j h' ha;simp only [iha ha];exact ihb g
  ·rename_i p;rw [iha g];split
   ·rename_i j h' l
    cases l
    exact absurd g (p _ _)
   ·rfl
 |cond c a b iha ihb=>
  intro i h r g;simp only [dP]at g⊢;split at g
  ·exact iha g
  ·exact ihb g
  ·cases g
 |block id c ih=>
  intro i h r g;simp only [dP]at g⊢;split at g
  ·rename_i u j h' ha;simp only [ih ha];exact g
  ·rename_i p;rw [ih g];split
   ·rename_i u j h' l
    cases l
    exact absurd g (p _ _ _)
   ·rfl
 |loop c ih=>
  intro i h r g;simp only [dP]at g⊢;exact oN (fun _ _ _ q=>ih q) A g
 |scope c ih=>
  intro i h r g;simp only [dP]at g⊢;exact ih g
 |_=>intro i h r g;first|exact g| (simp only [dP]at g⊢;exact g)
theorem uO(j:Cz cf cf'){n m:Nat}(l:n<=m){rs:List ResultVar}{c:Code}{h:Heap}{r:Y14×Heap}(g:gZ E f cf n rs c d h=some r):gZ E f cf' m rs c d h=some r:=by
 unfold gZ at g⊢;split at g
 ·rename_i p h' i;simp only [rR j l i];exact g
 ·rename_i p h' i;simp only [rR j l i];exact g
 ·cases g
theorem nG{E:Env} : ∀{n m:Nat},n<=m->Cz (iP E n) (iP E m)
 |0,_,_=>fun g xs h r i=>by simp [iP]at i
 |n+1,0,hn=>IM
 |n+1,m+1,hn=>fun g xs h r i=>by
  have p:=nG (E:=E) (FZ hn);have j:=FZ hn;rw [iB]at i⊢;split at i
  ·rename_i fn hf;split at i
   ·rename_i c z;split at i
    ·split at i
     ·rename_i vs h' l;simp only [uO p j l];exact i
     ·cases i
    ·split at i
     ·rename_i u;rw [if_pos u];split at i
      ·rename_i vs h' l;simp only [uO p j l];exact i
      ·cases i
     ·cases i
   ·cases i
  ·cases i
def FF.forget(F:FF):List Nat->FF
 | []=>F
 |s::r=>FF.forget {tm:=(F.clr s).tm,lv:=fun k=>if k=s then none else F.lv k } r
def FF.start(E:Env)(f:FuncId)(ops:List Oper)(draw:Bool)(F:FF):FF:=if draw then F.forget (ops.filterMap (Iu E f))else F
theorem M8: ∀(l:List Nat)(g:Fr),(g.forget l).ff=g.ff.forget l
 | [],_=>rfl
 |s::r,g=>by
  unfold Fr.forget FF.forget
  rw [M8 r]
  congr 1
  simp only [Fr.ff,FF.clr]
  congr 1
  ·funext k;rw [PT.get_filt];cases g.tm.get k<;>rfl
  ·funext k;rw [PT.get_set]
theorem Zq(g:Fr)(ops:List Oper)(draw:Bool):(g.start E f ops draw).ff=g.ff.start E f ops draw:=by
 unfold Fr.start FF.start
 split
 ·exact M8 _ _
 ·rfl
end
def aO(E:Env)(g:FuncId)(xs:Y14)(h:Heap)(Q:IV->Heap->Prop):Prop:= ∃n v h',iP E n g xs h=some (v,h')/\Q v h'
abbrev Ps:=List (Nat×(Heap->Prop))
def Pok:Pd->Ps->Prop
 | [],[]=>True
 |p::r,q::s=>(p.1=q.1/\∀h2,q.2 h2->p.2 h2=true)/\Pok r s
 |_,_=>False
def Ql(ps:Ps)(b:Nat)(h:Heap):Prop:= ∀q∈ps,b.testBit q.1=true\/q.2 h
theorem Pok.all: ∀{g:Pd}{ps:Ps}{b:Nat}{h:Heap},Pok g ps->Ql ps b h->g.all (fun p=>b.testBit p.1||p.2 h)=true
 | [],[],_,_,_,_=>rfl
 |p::r,q::s,b,h,hp,hw=>by
  rw [EP,AF,CL];refine⟨?_,Pok.all hp.2 fun x i=>hw x (BX _ i)⟩;rw [hp.1.1];rcases hw q BJ with z|z
  ·exact .inl z
  ·exact .inr (hp.1.2 h z)
 | [],_::_,_,_,hp,_=>hp.elim
 |_::_,[],_,_,hp,_=>hp.elim
def A5(E:Env)(f:FuncId)(ops:List Oper)(draw:Bool)(bef:Nat->Nat)(j:List Nat)(rs:Nat->Y10)(l:List (Oper×Nat))(m:Met)(ps:Ps)(F:FF)(h:Heap)(Q:FF->Heap->Prop):Prop:=
 ∀(g:Fr)(i:Pd),Pok i ps->g.ff=F-> ∃n fr' h',kZ E f (iP E n) ops draw bef j rs l m i g h=some (fr',h')/\Q fr'.ff h'
def bX(E:Env)(f:FuncId)(c:Code)(F:FF)(h:Heap)(Q:Ex->FF->Heap->Prop):Prop:=
 ∀fr:Fr,fr.ff=F-> ∃n x fr' h',dP E f (iP E n) n c fr h=some (x,fr',h')/\Q x fr'.ff h'
section
variable {E:Env} {f:FuncId}
theorem bX.mono{c:Code}{F:FF}{h:Heap}{Q R:Ex->FF->Heap->Prop}(a:bX E f c F h Q)(l: ∀x F' h',Q x F' h'->R x F' h'):bX E f c F h R:=fun i hf=>by
 obtain⟨n,x,g,h',j,h2⟩:=a i hf;exact⟨n,x,g,h',j,l _ _ _ h2⟩
theorem bX.up{c:Code}{g:Fr}{h:Heap}{n m:Nat}(i:n<=m){r:Ex×Fr×Heap}(j:dP E f (iP E n) n c g h=some r):dP E f (iP E m) m c g h=some r:=
 rR (nG i) i j
theorem bX.skip{F:FF}{h:Heap}{Q:Ex->FF->Heap->Prop}(g:Q .normal F h):bX E f .skip F h Q:=fun i hf=>⟨0,_,_,_,rfl,by rw [hf];exact g⟩
theorem bX.exit{id:Nat}{F:FF}{h:Heap}{Q:Ex->FF->Heap->Prop}(g:Q (.exit id) F h):bX E f (.exit id) F h Q:=fun i hf=>⟨0,_,_,_,rfl,by rw [hf];exact g⟩
theorem bX.ret{F:FF}{h:Heap}{Q:Ex->FF->Heap->Prop}(g:Q .ret F h):bX E f .ret F h Q:=fun i hf=>⟨0,_,_,_,rfl,by rw [hf];exact g⟩
theorem bX.seq{a b:Code}{F:FF}{h:Heap}{Q:Ex->FF->Heap->Prop}(ha:bX E f a F h fun x l h'=>match x with| .normal=>bX E f b l h' Q|x=>Q x l h'):bX E f (.seq a b) F h Q:=fun u hf=>by
 obtain⟨n,x,g,p,r1,j⟩:=ha u hf
 cases x with
 |normal=>
  obtain⟨m,y,i,h2,A,z⟩:=j g rfl;refine⟨max n m,y,i,h2,?_,z⟩;simp only [dP,bX.up (HU n m) r1];exact bX.up (GD n m) A
 |exit id=>exact⟨n,_,g,p,by simp only [dP,r1],j⟩
 |ret=>exact⟨n,_,g,p,by simp only [dP,r1],j⟩
theorem bX.cond{x:Operand}{b:Bool}{c d:Code}{F:FF}{h:Heap}{Q:Ex->FF->Heap->Prop}(z:bD E F.tm x=some (.v (.bool b)))(u:b=true->bX E f c F h Q)(hd:b=false->bX E f d F h Q):
  bX E f (.cond x c d) F h Q:=fun j hf=>by
 have i:bD E j.tm.get x=some (.v (.bool b)):=by rw [<-z,<-hf];rfl
 cases b with
 |true=>
  obtain⟨n,y,g,l,r1,p⟩:=u rfl j hf;exact⟨n,y,g,l,by simp only [dP,i,r1],p⟩
 |false=>
  obtain⟨n,y,g,l,r1,p⟩:=hd rfl j hf;exact⟨n,y,g,l,by simp only [dP,i,r1],p⟩
theorem bX.block{id:Nat}{c:Code}{F:FF}{h:Heap}{Q:Ex->FF->Heap->Prop}(u:bX E f c F h fun x l h'=>match x with| .exit id'=>if id'=id then Q .normal l h' else Q (.exit id') l h'|x=>Q x l h'):bX E f (.block id c) F h Q:=fun p hf=>by
 obtain⟨n,x,g,j,r1,i⟩:=u p hf
 cases x with
 |normal=>exact⟨n,_,g,j,by simp only [dP,r1],i⟩
 |ret=>exact⟨n,_,g,j,by simp only [dP,r1],i⟩
 |exit id'=>
  simp only at i
  by_cases hid:id'=id
  ·rw [if_pos hid]at i;exact⟨n,.normal,g,j,by simp only [dP,r1,if_pos hid],i⟩
  ·rw [if_neg hid]at i;exact⟨n,.exit id',g,j,by simp only [dP,r1,if_neg hid],i⟩
theorem bX.scope{c:Code}{F:FF}{h:Heap}{Q:Ex->FF->Heap->Prop}(l:bX E f c F h Q):bX E f (.scope c) F h Q:=fun i hf=>by
 obtain⟨n,x,g,j,r1,p⟩:=l i hf;exact⟨n,x,g,j,by simp only [dP,r1],p⟩
theorem bX.loop{c:Code}{F:FF}{h:Heap}{Q:Ex->FF->Heap->Prop}(K:bX E f c F h fun x u h'=>match x with| .normal=>bX E f (.loop c) u h' Q|x=>Q x u h'):bX E f (.loop c) F h Q:=fun z hf=>by
 obtain⟨n,x,i,l,r1,p⟩:=K z hf;have more: ∀(y:Ex)(g:Fr)(h2:Heap)(k:Nat),n<=k->(∀j h',(some (x,i,l):Option (Ex×Fr×Heap))=some (.normal,j,h')->iM (dP E f (iP E (k+1)) (k+1) c) k j h'=some (y,g,h2))->(x≠ .normal->y=x/\g=i/\h2=l)->
   dP E f (iP E (k+1)) (k+1) (.loop c) z h=some (y,g,h2):=by
  intro y g h2 k L O D;simp only [dP];unfold iM
  rw [bX.up (HB L) r1]
  cases x with
  |normal=>exact O _ _ rfl
  |exit id=>obtain⟨rfl,rfl,rfl⟩:=D IP;rfl
  |ret=>obtain⟨rfl,rfl,rfl⟩:=D IP;rfl
 cases x with
 |normal=>
  obtain⟨m,y,g,h2,G,T⟩:=p i rfl;refine⟨max n m+1,y,g,h2,more y g h2 _ (HU n m) (fun j h' e=>?_) (fun e=>absurd rfl e),T⟩
  cases e
  simp only [dP]at G;have A:m<=max n m+1:=HB (GD n m);exact oN (fun _ _ _ q=>rR (nG A) A q) (GD n m) G
 |exit id=>exact⟨n+1,_,i,l,more _ _ _ n (AJ n) (fun _ _ e=>by cases e) (fun _=>⟨rfl,rfl,rfl⟩),p⟩
 |ret=>exact⟨n+1,_,i,l,more _ _ _ n (AJ n) (fun _ _ e=>by cases e) (fun _=>⟨rfl,rfl,rfl⟩),p⟩
theorem bX.region{id:Nat}{ops:Array Oper}{draw:Bool}{F:FF}{h:Heap}{Q:Ex->FF->Heap->Prop}(p:A5 E f ops.toList draw (zV ops) (E.an f id) (Ix h.next (E.an f id)) (wB (E.od f id) draw ops.toList) {} [] (F.start E f ops.toList draw) (h.reserve (E.an f id).length) fun i h'=>Q .normal i h'):bX E f (.region id ops draw) F h Q:=fun j hf=>by
 obtain⟨n,g,l,r1,u⟩:=p (j.start E f ops.toList draw) [] trivial (by rw [Zq,hf]);exact⟨n,_,g,l,by simp only [dP,r1],u⟩
theorem A5.nil{ops:List Oper}{draw:Bool}{bef:Nat->Nat}{g:List Nat}{rs:Nat->Y10}{m:Met}{ps:Ps}{F:FF}{h:Heap}{Q:FF->Heap->Prop}(j:Q F h):A5 E f ops draw bef g rs [] m ps F h Q:=fun i p l hf=>⟨0,i,h,rfl,by rw [hf];exact j⟩
def bA(h:Heap)(id k:Nat):Option IV:=match h.get id with
 | .cells cs=>cs[k]?
 |_=>none
def S6(h h2:Heap)(id k:Nat):Prop:=bA h2 id k=bA h id k
def psQ(E:Env)(o:Oper)(ev:Operand->Option TV)(h h2:Heap):Prop:=match o.op with
 | .load t a=>match ev a with
  |some (.v (.ptr id off))=>match fV E.P t with
   |some (false,_)=>S6 h h2 id off
   |_=>lD h h2 (some id)
  |_=>True
 |_=>lD h h2 (iX o ev)
theorem c2F{E:Env}{o:Oper}{ev:Operand->Option TV}{h h2:Heap}{v:TV}(g:dO E o ev h=some v)(hs:psQ E o ev h h2):dO E o ev h2=some v:=by
 unfold psQ at hs;split at hs
 ·rename_i t a i;split at hs
  ·rename_i id D p;split at hs
   ·rename_i n l;unfold dO at g⊢;simp only [i,p]at g⊢;unfold S6 bA at hs;split at g
    ·rename_i cs u;rw [u]at hs;simp only [eU,l]at g⊢;obtain⟨w,A,rfl⟩:=AD.1 g;simp only at hs;rw [A]at hs;split at hs
     ·rename_i G j;simp only [j,hs,DN]
     ·cases hs
    ·cases g
   ·refine wJ g ?_;unfold iX
    simp only [i,p];exact hs
  ·rename_i z;unfold dO at g;simp only [i]at g
   cases g
 ·exact wJ g hs
def M9(E:Env)(o:Oper)(ev:Operand->Option TV)(e:Ef)(i:Nat)(ps:Ps):Ps:=match e.c with
 | .r=>(i,fun h2=>psQ E o ev e.h h2)::ps
 |_=>ps
theorem Wl{cf:FuncId->Y14->Heap->Option (IV×Heap)}{draw:Bool}{o:Oper}{ev:Operand->Option TV}{lv:Nat->Option (Y14)}{h:Heap}{e:Ef}(i:dX E f cf draw o ev lv h=some e)(j:e.c= .r):
  e.h=h/\∃v,dO E o ev h=some v/\e.v=some v:=by
 unfold dX at i;split at i
 ·repeat' split at i
  all_goals first
   | (cases i;done)
   | (cases i;cases j)
 ·split at i
  ·cases i;cases j
  ·split at i
   ·cases i;cases j
   ·split at i
    ·rename_i v l
     cases i
     exact⟨rfl,v,l,rfl⟩
    ·split at i
     ·cases i;cases j
     ·split at i
      ·split at i
       ·cases i
        rename_i g xs _ _ _ _ _;simp only [oH]at j;split at j<;>cases j
       ·cases i
      ·cases i
theorem Pok.add{cf:FuncId->Y14->Heap->Option (IV×Heap)}{draw:Bool}{ops:List Oper}{rs:Y10}{o:Oper}{j:Nat->Option TV}{lv:Nat->Option (Y14)}{h:Heap}{e:Ef}{i:Nat}{p:Pd}{ps:Ps}(g:dK E f cf ops draw rs o j lv h=some e)(z:Pok p ps):
  Pok (kY E o (bD E j) e i p) (M9 E o (bD E j) e i ps):=by
 by_cases hc:e.c= .r
 ·unfold kY M9
  rw [hc];refine⟨⟨rfl,fun h2 hs=>?_⟩,z⟩
  cases rs with
  |some n=>
   exfalso;rcases wL g with rfl| ⟨v,ha,rfl⟩| ⟨v,x,ha,_,rfl⟩<;>cases hc
  |none=>
  have g:sS E f cf ops draw o j lv h=some e:=g;unfold sS at g;split at g
  ·cases g
  ·cases g;cases hc
  ·obtain⟨u,v,l,A⟩:=Wl g hc;rw [u]at hs;have D:=c2F l hs;obtain⟨x,rfl⟩:=Yt l;simp only [D,A,b3B];exact wK x
 ·have u:kY E o (bD E j) e i p=p:=by
   unfold kY
   split
   ·rename_i h;exact absurd h hc
   ·rfl
  have l:M9 E o (bD E j) e i ps=ps:=by
   unfold M9
   split
   ·rename_i h;exact absurd h hc
   ·rfl
  rw [u,l];exact z
theorem A5.cons{ops:List Oper}{draw:Bool}{bef:Nat->Nat}{p:List Nat}{rs:Nat->Y10}{o:Oper}{i:Nat}{l:List (Oper×Nat)}{m:Met}{ps:Ps}{F:FF}{h:Heap}{Q:FF->Heap->Prop}
  (he: ∃n e,dK E f (iP E n) ops draw (rs i) o F.tm F.lv h=some e/\(draw=false\/ ((iK (m.chk e.c) (bef i)=true\/e.c= .e/\iK (m.e|||m.a) (bef i)=true/\Ql ps (bef i) e.h)/\R8 p rs m (bef i) (iX o (bD E F.tm)) e.c=true))/\A5 E f ops draw bef p rs l (m.add e.c i) (M9 E o (bD E F.tm) e i ps) (F.app o.dst e) e.h Q):
  A5 E f ops draw bef p rs ((o,i)::l) m ps F h Q:=fun g K G hf=>by
 obtain⟨n,e,L,h2,D⟩:=he;have j:dK E f (iP E n) ops draw (rs i) o g.tm.get g.lv.get h=some e:=by rw [<-L,<-hf];rfl
 have hev:bD E F.tm=bD E g.tm.get:=by rw [<-hf];rfl
 rw [hev]at h2 D;obtain⟨k,u,h',O,T⟩:=D (g.app o.dst e) (kY E o (bD E g.tm.get) e i K) (Pok.add j G) (by rw [Zf,hf]);refine⟨max n k,u,h',?_,T⟩;unfold kZ
 have A:(!draw||okB p rs m K (bef i) (iX o (bD E g.tm.get)) e)=true:=by
  rw [CL];rcases h2 with z| ⟨z,Z⟩
  ·exact .inl (by rw [z];rfl)
  ·refine .inr ?_;unfold okB
   rw [AF,CL];refine⟨?_,Z⟩;rcases z with z| ⟨V,X,Y⟩
   ·exact .inl z
   ·refine .inr ?_;unfold Iw
    simp only [V,X,BN];exact Pok.all G Y
 simp only [M7 (nG (HU n k)) j,A,if_true];exact qL (nG (GD n k)) O
end
structure GF where
 tm:PT (Option TV)
 lv:PT (Option (Y14))
 b:FF
def FF.none:FF:=⟨fun _=>Option.none,fun _=>Option.none⟩
def GF.tmg(F:GF)(k:Nat):Option TV:=match F.tm.get k with
 |some x=>x
 |none=>F.b.tm k
def GF.lvg(F:GF)(k:Nat):Option (Y14):=match F.lv.get k with
 |some x=>x
 |none=>F.b.lv k
def GF.ff(F:GF):FF:=⟨F.tmg,F.lvg⟩
def GF.put(F:GF)(d:Option Tmp)(v:Option TV):GF:=match d with
 |some t=> {F with tm:=F.tm.set t (some v) }
 |none=>F
def GF.lset(F:GF)(s:Nat)(cs:Option (Y14)):GF:= {F with lv:=F.lv.set s (some cs) }
def Qm(s:Nat):Option TV->Option TV
 |some y=>if qA s y then some y else none
 |none=>none
def PT.mapv{α:Type}(g:α->α):PT α->PT α
 | .nil=> .nil
 | .node l v r=> .node (l.mapv g) (match v with|some x=>some (g x)|none=>none) (r.mapv g)
def GF.clr(F:GF)(s:Nat):GF:= {F with tm:=F.tm.mapv (Qm s),b:=F.b.clr s }
def GF.app(F:GF)(d:Option Tmp)(e:Ef):GF:=match e.loc with
 |some (s,cs)=>match e.box with
  |true=>((F.clr s).lset s (some cs)).put d e.v
  |false=>(F.put d e.v).lset s (some cs)
 |none=>F.put d e.v
def GF.forget(F:GF):List Nat->GF
 | []=>F
 |s::r=>GF.forget ((F.clr s).lset s none) r
def GF.start(E:Env)(f:FuncId)(ops:List Oper)(draw:Bool)(F:GF):GF:=match draw with
 |true=>F.forget (ops.filterMap (Iu E f))
 |false=>F
structure Sp where
 br:Bool->Prop->Prop->Prop
 need:Bool->Prop->Prop
 ldI:IntKind->Y14->Nat->(Int->Prop)->Prop
 ldB:Y14->Nat->(Bool->Prop)->Prop
 ldS:Y14->Nat->(Y11->Prop)->Prop
 ldV:Nat->Y14->Nat->(Y10->Nat->Nat->Y14->Prop)->Prop
 ldA:Y14->Nat->(IV->Prop)->Prop
 chr:Y11->Nat->(Int->Prop)->Prop
 hget:Heap->Nat->(Y14->Prop)->Prop
 tip:Heap->Nat->(Nat->Prop)->Prop
 call:FuncId->Y14->Heap->(IV->Heap->Prop)->Prop
 ldNV:Nat->Y14->Nat->Prop->(Nat->Nat->Nat->Y14->Prop)->Prop
 ldNH:Nat->Y14->Nat->Prop->(Nat->Nat->Nat->Prop)->Prop
 mlook:Heap->Nat->TypeDesc->IV->(Y14->Prop)->Prop->Prop
 mupd:Heap->Nat->TypeDesc->IV->IV->(List (IV×IV)->Prop)->Prop
 byt:Y14->(Y11->Prop)->Prop
 ldM:Y14->Nat->(Nat->Prop)->Prop
 ldP:Y14->Nat->(Nat->Nat->Prop)->Prop
 app:Heap->Nat->Nat->IV->Nat->Y14->(Nat->Nat->Nat->Y14->Heap->Prop)->Prop
 fre:Heap->Nat->Prop->Prop
 ent:Heap->Nat->TypeDesc->IV->IV->(IV->Nat->List (IV×IV)->Prop)->Prop
 mput:Heap->Nat->Int->IV->(List (IV×IV)->Prop)->Prop
 ldNM:Y14->Nat->Prop->(Nat->Prop)->Prop
 ldG:Nat->Y14->Nat->(Y14->Prop)->Prop
def aJ(b:Bool)(A B:Prop):Prop:=match b with
 |true=>A
 |false=>B
def aD(b:Bool)(A:Prop):Prop:=match b with
 |true=>A
 |false=>False
def aI(k:IntKind)(cs:Y14)(g:Nat)(K:Int->Prop):Prop:=match cs[g]? with
 |some (.int k' n)=>if k'=k then K n else False
 |_=>False
def kQ(cs:Y14)(g:Nat)(K:Bool->Prop):Prop:=match cs[g]? with
 |some (.bool b)=>K b
 |_=>False
def bL(cs:Y14)(g:Nat)(K:Y11->Prop):Prop:=match cs[g]? with
 |some (.str b)=>K b
 |_=>False
def aX(sz:Nat)(cs:Y14)(g:Nat)(K:Y10->Nat->Nat->Y14->Prop):Prop:=match cs[g]? with
 |some (.vslice id e len z cs')=>if z=sz then K id e len cs' else False
 |_=>False
def c2G(cs:Y14)(g:Nat)(K:IV->Prop):Prop:=match cs[g]? with
 |some v=>K v
 |none=>False
def gN(s:Y11)(i:Nat)(K:Int->Prop):Prop:=match s[i]? with
 |some b=>K b.toNat
 |none=>False
def aE(h:Heap)(id:Nat)(K:Y14->Prop):Prop:=match h.get id with
 | .cells cs=>K cs
 |_=>False
def cK(h:Heap)(id:Nat)(K:Nat->Prop):Prop:=match h.get id with
 | .tip m=>K m
 |_=>False
def bP(sz:Nat)(cs:Y14)(g:Nat)(A:Prop)(K:Nat->Nat->Nat->Y14->Prop):Prop:=match cs[g]? with
 |some .nilslice=>A
 |some (.vslice (some id) e len z cs')=>if z=sz then K id e len cs' else False
 |_=>False
def cY(sz:Nat)(cs:Y14)(g:Nat)(A:Prop)(K:Nat->Nat->Nat->Prop):Prop:=match cs[g]? with
 |some .nilslice=>A
 |some (.hslice id o len z)=>if z=sz then K id o len else False
 |_=>False
def qM(h:Heap)(id:Nat)(d:TypeDesc)(g:IV)(K:Y14->Prop)(A:Prop):Prop:=match h.get id with
 | .map es=>match eV d g es with
  |some (some v)=>K [v]
  |some none=>A
  |none=>False
 |_=>False
def yG(h:Heap)(id:Nat)(d:TypeDesc)(g v:IV)(K:List (IV×IV)->Prop):Prop:=match h.get id with
 | .map es=>match pJ d g v es with
  |some es'=>K es'
  |none=>False
 |_=>False
def Da(cs:Y14)(K:Y11->Prop):Prop:=match fW cs with
 |some b=>K b
 |none=>False
def J7(cs:Y14)(g:Nat)(K:Nat->Prop):Prop:=match cs[g]? with
 |some (.map id)=>K id
 |_=>False
def d0N(cs:Y14)(g:Nat)(K:Nat->Nat->Prop):Prop:=match cs[g]? with
 |some (.ptr id o)=>K id o
 |_=>False
def nH(h:Heap)(sz g:Nat)(s:IV)(n:Nat)(xs:Y14)(K:Nat->Nat->Nat->Y14->Heap->Prop):Prop:=match s with
 | .nilslice=>n*g<=140737488355328/\K h.next (n*sz) n xs (h.push (.tip (n*sz)))
 | .vslice none 1 len z cs=>(z=sz/\(len+n)*g<=140737488355328)/\K h.next ((len+n)*sz) (len+n) (cs++xs) (h.push (.tip ((len+n)*sz)))
 | .vslice (some id) e len z cs=>(z=sz/\(len+n)*g<=140737488355328/\h.get id= .tip e)/\K id (e+n*sz) (len+n) (cs++xs) (h.set id (.tip (e+n*sz)))
 |_=>False
def c2H(h:Heap)(n:Nat)(A:Prop):Prop:=match h.get n with
 | .free=>A
 |_=>False
def d0O(h:Heap)(id:Nat)(d:TypeDesc)(g z:IV)(K:IV->Nat->List (IV×IV)->Prop):Prop:=match h.get id with
 | .map es=>match Yo d g z es with
  |some r=>K r.1 r.2.1 r.2.2
  |none=>False
 |_=>False
def d0P(n:Nat)(cs:Y14)(g:Nat)(K:Y14->Prop):Prop:=match cs[g]? with
 |some (.agg xs)=>match Nat.beq xs.length n with
  |true=>K xs
  |false=>False
 |_=>False
def b9X(cs:Y14)(g:Nat)(A:Prop)(K:Nat->Prop):Prop:=match cs[g]? with
 |some .nilmap=>A
 |some (.map id)=>K id
 |_=>False
def b9Y(h:Heap)(id:Nat)(n:Int)(v:IV)(K:List (IV×IV)->Prop):Prop:=match h.get id with
 | .map es=>(0<=n/\n<es.length)/\K (K8 v n.toNat es)
 |_=>False
def aS(C:FuncId->Y14->Heap->(IV->Heap->Prop)->Prop):Sp where
 br:=aJ
 need:=aD
 ldI:=aI
 ldB:=kQ
 ldS:=bL
 ldV:=aX
 ldA:=c2G
 chr:=gN
 hget:=aE
 tip:=cK
 call:=C
 ldNV:=bP
 ldNH:=cY
 mlook:=qM
 mupd:=yG
 byt:=Da
 ldM:=J7
 ldP:=d0N
 app:=nH
 fre:=c2H
 ent:=d0O
 mput:=b9Y
 ldNM:=b9X
 ldG:=d0P
structure Inv1 where
 X:Type
 slots:X->List (Nat×TV)
 locs:X->List (Nat×Y14)
 hp:X->Heap
 cond:X->Prop
 meas:X->Nat
 get:GF->Heap->Option X
def Db:List (Nat×TV)->PT (Option TV)
 | []=> .nil
 | (s,v)::r=>(Db r).set s (some (some v))
def Dc:List (Nat×Y14)->PT (Option (Y14))
 | []=> .nil
 | (s,v)::r=>(Dc r).set s (some (some v))
def sY(F:GF):List (Nat×TV)->Prop->Prop
 | [],A=>A
 | (s,v)::r,A=>F.tmg s=some v/\sY F r A
def sZ(F:GF):List (Nat×Y14)->Prop->Prop
 | [],A=>A
 | (s,v)::r,A=>F.lvg s=some v/\sZ F r A
inductive Inv' where
 |one (v:Inv1)
 |ex (v:Inv1)
 |or (a b:Inv')
def Inv'.J:Inv'->GF->Heap->(Nat->Prop)->Prop
 | .one v,F,h,P=>match v.get F h with
  |some x=>sY F (v.slots x) (sZ F (v.locs x) (h=v.hp x/\v.cond x/\P (v.meas x)))
  |none=>False
 | .ex v,F,h,P=> ∃x:v.X,sY F (v.slots x) (sZ F (v.locs x) (h=v.hp x/\v.cond x/\P (v.meas x)))
 | .or a b,F,h,P=>a.J F h P\/b.J F h P
def Inv'.I:Inv'->(GF->Heap->Nat->Prop)->Prop
 | .one v,K=> ∀(x:v.X)(b:FF),v.cond x->K ⟨Db (v.slots x),Dc (v.locs x),b⟩ (v.hp x) (v.meas x)
 | .ex v,K=> ∀(x:v.X)(b:FF),v.cond x->K ⟨Db (v.slots x),Dc (v.locs x),b⟩ (v.hp x) (v.meas x)
 | .or a b,K=>a.I K/\b.I K
section
variable (S:Sp) (E:Env) (f:FuncId)
def ldC(i:CK)(cs:Y14)(g:Nat)(K:IV->Prop):Prop:=match i with
 | .int k=>S.ldI k cs g fun n=>K (.int k n)
 | .bool=>S.ldB cs g fun b=>K (.bool b)
 | .str=>S.ldS cs g fun s=>K (.str s)
 | .slc sz=>S.ldV sz cs g fun id e len c=>K (.vslice id e len sz c)
 | .any=>S.ldA cs g K
def Jr:List CK->Y14->Nat->(Y14->Prop)->Prop
 | [],_,_,K=>K []
 |ck::r,cs,off,K=>ldC S ck cs off fun v=>Jr r cs (off+1) fun vs=>K (v::vs)
def ldK(t:TypeId)(cs:Y14)(g:Nat)(K:IV->Prop):Prop:=match fV E.P t with
 |some (false,_)=>ldC S (R5 E.P t) cs g K
 |some (true,n+1)=>match Nat.beq (sI E.P 8 t).length (n+1)with
  |true=>Jr S (sI E.P 8 t) cs g fun vs=>K (.agg vs)
  |false=>False
 |_=>False
def ldE(t:TypeId)(r:Y14)(K:IV->Prop):Prop:=match fV E.P t with
 |some (true,n+1)=>match Nat.beq (sI E.P 8 t).length (n+1)with
  |true=>S.ldG (n+1) r 0 fun xs=>Jr S (sI E.P 8 t) xs 0 fun vs=>K (.agg vs)
  |false=>ldC S (R5 E.P t) r 0 K
 |_=>ldC S (R5 E.P t) r 0 K
def b4C:Nat->List CK
 |0=>[]
 |n+1=> .any::b4C n
def Ca(d:Option Tmp)(t:TypeId)(cs:Y14)(g:Nat)(K:IV->Prop):Prop:=match d with
 |some s=>match E.ld f s with
  |true=>match fV E.P t with
   |some (false,_)=>S.ldA cs g K
   |some (true,n+1)=>Jr S (b4C (n+1)) cs g fun vs=>K (.agg vs)
   |_=>False
  |false=>match E.ln f s with
   |0=>ldK S E t cs g K
   |1=>match fV E.P t,R5 E.P t with
    |some (false,_),.slc sz=>S.ldNV sz cs g (K .nilslice) fun id e len c=>K (.vslice (some id) e len sz c)
    |_,_=>False
   |3=>match fV E.P t with
    |some (false,_)=>S.ldM cs g fun id=>K (.map id)
    |_=>False
   |4=>match fV E.P t with
    |some (false,_)=>S.ldP cs g fun id o=>K (.ptr id o)
    |_=>False
   |5=>match fV E.P t,R5 E.P t with
    |some (false,_),.slc sz=>S.ldNH sz cs g False fun id o len=>K (.hslice id o len sz)
    |_,_=>False
   |6=>match fV E.P t with
    |some (false,_)=>S.ldNM cs g (K .nilmap) fun id=>K (.map id)
    |_=>False
   |_=>match fV E.P t,R5 E.P t with
    |some (false,_),.slc sz=>S.ldNH sz cs g (K .nilslice) fun id o len=>K (.hslice id o len sz)
    |_,_=>False
 |none=>ldK S E t cs g K
def stK(t:TypeId)(cs:Y14)(g:Nat)(v:IV)(K:Y14->Prop):Prop:=match fX E.P t,oE v with
 |some n,true=>match Nat.beq (cellsOf v).length n with
  |true=>S.need (Nat.ble (g+n) cs.length) (K (cs.take g++cellsOf v++cs.drop (g+n)))
  |false=>False
 |_,_=>False
def rS(P:Program):List Field->Y14->Y14->Option Bool
 | [],_,_=>some true
 |f::fs,xs,ys=>
  if f.name == "_" then none else
  match P.underlying f.type,xs[f.offset]?,ys[f.offset]? with
  |some d,some x,some y=>match dR d x y,rS P fs xs ys with
   |some b,some c=>some (b&&c)
   |_,_=>none
  |_,_,_=>none
def Qn(t:TypeId)(xs g:Y14):Option Bool:=match E.P.underlying t with
 |some (.struct fs)=>match E.P.stoodInHeld t||E.P.eqGuardType E.P.depth t with
  |true=>none
  |false=>rS E.P fs.toList xs g
 |_=>none
def c2I(op:BinOp)(c:Bool)(t:TypeId)(a b:IV)(K:IV->Prop):Prop:=match a,b with
 | .int k x,.int k' y=>match op with
  | .quo=>if k=k' then S.need (!(y==0)) (K (.int k (k.wrap (x.tdiv y))))else False
  | .rem=>if k=k' then S.need (!(y==0)) (K (.int k (x.tmod y)))else False
  | .shl=>S.need (decide (0<=y)) (K (.int k (k.wrap (x*2^ (min y.toNat k.bits)))))
  | .shr=>S.need (decide (0<=y)) (K (.int k (x.fdiv (2^ (min y.toNat k.bits)))))
  |op=>match(if k=k' then pZ op k x y else none)with
   |some v=>K v
   |none=>False
 | .str x,.str y=>match op with
  | .add=>S.need (Nat.ble (x.length+y.length) 9223372036854775807) (K (.str (x++y)))
  |op=>match zU op x y with
   |some v=>K v
   |none=>False
 | .agg xs,.agg ys=>match op with
  | .eql=>match Qn E t xs ys with
   |some b=>K (.bool b)
   |none=>False
  | .neq=>match Qn E t xs ys with
   |some b=>K (.bool (!b))
   |none=>False
  |_=>False
 |x,y=>match lW E.P op c t x y with
  |some v=>K v
  |none=>False
def Wm(len:Nat)(lo hi:Option (Option TV))(K:Int->Int->Prop):Prop:=
 match(match lo with|none=>some (0:Int)|some x=>J5 x),(match hi with|none=>some (len:Int)|some x=>J5 x)with
 |some l,some h=>S.need (decide (0<=l) && (decide (l<=h) &&decide (h<=len))) (K l h)
 |_,_=>False
def d0S:FuncId->Y14->Heap->Option (IV×Heap):=fun _ _ _=>none
def A6(draw:Bool)(o:Oper)(F:GF)(h:Heap)(K:GF->Ef->Prop):Prop:=match dX E f d0S draw o (bD E F.tmg) F.lvg h with
 |some e=>K F e
 |none=>False
def Dd(c:Operand)(F:GF)(x:Bool):GF:=match c with
 | .tmp t=>F.put (some t) (some (.v (.bool x)))
 |_=>F
def Zr(h:Heap)(sz:Nat)(x:IV)(K:Nat->Y14->Prop):Prop:=match x with
 | .nilslice=>K 0 []
 | .vslice _ _ len z cs=>match Nat.beq z sz with
  |true=>K len cs
  |false=>False
 | .hslice id off len z=>match Nat.beq z sz with
  |true=>S.hget h id fun cs=>S.need (Nat.ble (off+len*sz) cs.length) (K len ((cs.drop off).take (len*sz)))
  |false=>False
 | .str s=>match Nat.beq sz 1 with
  |true=>K s.length (s.map fun b=> .int .u8 b.toNat)
  |false=>False
 |_=>False
def c2J(h:Heap)(i sz g:Nat)(s x:IV)(K:IV->Heap->Prop):Prop:=Zr S h sz x fun n xs=>
 S.br (Nat.beq n 0)
  (match s with
   | .nilslice=>K .nilslice h
   | .vslice id e len z cs=>match Nat.beq z sz with
    |true=>K (.vslice id e len z cs) h
    |false=>False
   | .hslice id off len z=>match Nat.beq z sz with
    |true=>K (.hslice id off len z) h
    |false=>False
   |_=>False)
  (match s with
   | .nilslice=>S.need (Nat.ble (n*g) 140737488355328) (K (newRow h i n sz xs).1 (newRow h i n sz xs).2)
   | .vslice none 1 len z cs=>match Nat.beq z sz with
    |true=>S.need (Nat.ble ((len+n)*g) 140737488355328) (K (newRow h i (len+n) sz (cs++xs)).1 (newRow h i (len+n) sz (cs++xs)).2)
    |false=>False
   | .vslice (some id) e len z cs=>match Nat.beq z sz with
    |true=>S.tip h id fun m=>S.need (Nat.beq m e&&Nat.ble ((len+n)*g) 140737488355328) (K (.vslice (some id) (e+n*sz) (len+n) sz (cs++xs)) (h.set id (.tip (e+n*sz))))
    |false=>False
   | .hslice id off len z=>match Nat.beq z sz with
    |true=>S.hget h id fun cs=>S.need (Nat.beq off 0&& (Nat.ble (len*sz) cs.length&&Nat.ble ((len+n)*g) 140737488355328)) (K (.hslice h.next 0 (len+n) sz) ((h.set id .dead).push (.cells (cs.take (len*sz)++xs))))
    |false=>False
   |_=>False)
def Zs(h:Heap)(i sz g:Nat)(s x:IV)(K:IV->Heap->Prop):Prop:=match Nat.beq i 0 with
 |true=>Zr S h sz x fun n xs=>match n with
  |0=>False
  |n+1=>S.app h sz g s (n+1) xs fun id e len cs h2=>K (.vslice (some id) e len sz cs) h2
 |false=>False
def A7(g:FuncId)(xs:Y14):Y14:=match E.iso g with
 |true=>match E.P.funcs[g]? with
  |some fn=>gS E.P fn.params.toList xs
  |none=>xs
 |false=>match E.nr g with
  |true=>match E.P.funcs[g]? with
   |some fn=>gS E.P fn.params.toList xs
   |none=>xs
  |false=>xs
def opW(draw:Bool)(o:Oper)(F:GF)(h:Heap)(K:GF->Ef->Prop):Prop:=match o.op with
 | .move x=>match c2A E f o with
  |true=>match bJ (bD E F.tmg x)with
   |some (.hslice id off len sz)=>S.hget h id fun cs=>S.need (Nat.ble 1 sz&&Nat.ble (off+len*sz) cs.length) (K F ⟨.e,some (.v (.vslice none 0 len sz ((cs.drop off).take (len*sz)))),none,false,h.set id .dead⟩)
   |_=>False
  |false=>match bD E F.tmg x with
   |some v=>K F ⟨.p,some v,none,false,h⟩
   |none=>False
 | .pick c a b=>match bD E F.tmg c with
  |some (.v (.bool x))=>S.br x
   (match bD E F.tmg a with|some v=>K (Dd c F true) ⟨.p,some v,none,false,h⟩|none=>False)
   (match bD E F.tmg b with|some v=>K (Dd c F false) ⟨.p,some v,none,false,h⟩|none=>False)
  |_=>False
 | .binOp op t x y _=>match bJ (bD E F.tmg x),bJ (bD E F.tmg y)with
  |some a,some b=>c2I S E op (jJ x||jJ y) t a b fun v=>K F ⟨.p,some (.v v),none,false,h⟩
  |_,_=>False
 | .load t a=>match bD E F.tmg a with
  |some (.l s off)=>match F.lvg s with
   |some cs=>Ca S E f o.dst t cs off fun v=>K F ⟨.l,some (.v v),none,false,h⟩
   |none=>False
  |some (.v (.vref cs off))=>Ca S E f o.dst t cs off fun v=>K F ⟨.p,some (.v v),none,false,h⟩
  |some (.v (.ptr id off))=>S.hget h id fun cs=>Ca S E f o.dst t cs off fun v=>K F ⟨.r,some (.v v),none,false,h⟩
  |_=>False
 | .store t a x=>match bD E F.tmg a,bJ (bD E F.tmg x)with
  |some (.l s off),some v=>match F.lvg s with
   |some cs=>stK S E t cs off v fun cs'=>K F ⟨.s,none,some (s,cs'),false,h⟩
   |none=>False
  |some (.v (.ptr id off)),some v=>S.hget h id fun cs=>stK S E t cs off v fun cs'=>K F ⟨.e,none,none,false,h.set id (.cells cs')⟩
  |_,_=>False
 | .indexAddr t x ix=>match J5 (bD E F.tmg ix),E.P.underlying t with
  |some i,some (.array n e)=>match fX E.P e,bD E F.tmg x with
   |some sz,some a=>S.need (decide (0<=i) &&decide (i<n)) (match kX (i.toNat*sz) a with|some v=>K F ⟨.p,some v,none,false,h⟩|none=>False)
   |_,_=>False
  |some i,some (.slice e)=>match fX E.P e,bJ (bD E F.tmg x)with
   |some sz,some (.vslice _ _ len z cs)=>match Nat.beq z sz with
    |true=>S.need (decide (0<=i) &&decide (i<len)) (K F ⟨.p,some (.v (.vref cs (i.toNat*sz))),none,false,h⟩)
    |false=>False
   |some sz,some (.hslice id off len z)=>match Nat.beq z sz with
    |true=>S.need (decide (0<=i) &&decide (i<len)) (K F ⟨.p,some (.v (.ptr id (off+i.toNat*sz))),none,false,h⟩)
    |false=>False
   |_,_=>False
  |_,_=>False
 | .index t x ix=>match J5 (bD E F.tmg ix),E.P.underlying t,bJ (bD E F.tmg x)with
  |some i,some (.array n e),some (.agg cs)=>match fX E.P e with
   |some sz=>S.need (decide (0<=i) &&decide (i<n)) (ldK S E e cs (i.toNat*sz) fun v=>K F ⟨.p,some (.v v),none,false,h⟩)
   |none=>False
  |some i,some .string,some (.str s)=>S.need (decide (0<=i)) (S.chr s i.toNat fun b=>K F ⟨.p,some (.v (.int .u8 b)),none,false,h⟩)
  |_,_,_=>False
 | .slice t x lo hi mx=>match mx,E.P.underlying t,bJ (bD E F.tmg x)with
  |none,some .string,some (.str s)=>Wm S s.length (lo.map (bD E F.tmg)) (hi.map (bD E F.tmg)) fun l h'=>K F ⟨.p,some (.v (.str ((s.drop l.toNat).take (h'.toNat-l.toNat)))),none,false,h⟩
  |none,some (.slice e),some (.vslice id en len z cs)=>match fX E.P e with
   |some sz=>match Nat.beq z sz with
    |true=>Wm S len (lo.map (bD E F.tmg)) (hi.map (bD E F.tmg)) fun l h'=>
     K F ⟨.p,some (.v (.vslice id (en- (len-h'.toNat)*sz) (h'.toNat-l.toNat) sz ((cs.drop (l.toNat*sz)).take ((h'.toNat-l.toNat)*sz)))),none,false,h⟩
    |false=>False
   |none=>False
  |none,some (.slice e),some (.hslice id off len z)=>match fX E.P e with
   |some sz=>match Nat.beq z sz with
    |true=>Wm S len (lo.map (bD E F.tmg)) (hi.map (bD E F.tmg)) fun l h'=>K F ⟨.p,some (.v (.hslice id (off+l.toNat*sz) (h'.toNat-l.toNat) sz)),none,false,h⟩
    |false=>False
   |none=>False
  |none,some (.array n e),some (.ptr id off)=>match fX E.P e with
   |some (sz+1)=>S.hget h id fun cs=>S.need (Nat.ble (off+n*(sz+1)) cs.length) (Wm S n (lo.map (bD E F.tmg)) (hi.map (bD E F.tmg)) fun l h'=>
    K F ⟨.r,some (.v (.hslice id (off+l.toNat*(sz+1)) (h'.toNat-l.toNat) (sz+1))),none,false,h⟩)
   |_=>False
  |_,_,_=>A6 E f draw o F h K
 | .makeSlice t l c=>match E.P.underlying t,o.dst,J5 (bD E F.tmg l),J5 (bD E F.tmg c)with
  |some (.slice e),some d,some l,some c=>match fX E.P e,gY E.P e,dB E.P e with
   |some (sz+1),some bytes,some z=>match Nat.beq (cellsOf z).length (sz+1)with
    |true=>S.need (decide (0<=l) && (decide (l<=c) && (decide (c<=9223372036854775807) &&decide (bytes*c<=140737488355328))))
     (K F ⟨.e,some (.v (newRow h (1-E.A f d) l.toNat (sz+1) (fQ l.toNat (cellsOf z))).1),none,false,(newRow h (1-E.A f d) l.toNat (sz+1) (fQ l.toNat (cellsOf z))).2⟩)
    |false=>False
   |_,_,_=>False
  |_,_,_,_=>False
 | .call {callee:= .builtin .append,args,argTypes } =>match argTypes.toList,args.toList with
  | [t,u],[sx,xx]=>match bJ (bD E F.tmg sx),bJ (bD E F.tmg xx),E.P.underlying t,E.P.underlying u,o.dst with
   |some s,some x,some (.slice e),some du,some d=>match fX E.P e,gY E.P e,dB E.P e with
    |some (sz+1),some (bytes+1),some z=>match Nat.beq (cellsOf z).length (sz+1) &&kM du with
     |true=>match Nat.beq (E.ln f d) 9 with
      |true=>Zs S h (E.A f d) (sz+1) (bytes+1) s x fun v h'=>K F ⟨.e,some (.v v),none,false,h'⟩
      |false=>c2J S h (E.A f d) (sz+1) (bytes+1) s x fun v h'=>K F ⟨.e,some (.v v),none,false,h'⟩
     |false=>False
    |_,_,_=>False
   |_,_,_,_,_=>False
  |_,_=>False
 | .call {callee:= .builtin .copy,args,argTypes } =>match argTypes.toList,args.toList with
  |t::_,[sx,xx]=>match bJ (bD E F.tmg sx),bJ (bD E F.tmg xx),E.P.underlying t with
   |some (.hslice id off len z),some x,some (.slice e)=>match fX E.P e with
    |some (sz+1)=>match Nat.beq z (sz+1)with
     |true=>Zr S h (sz+1) x fun n xs=>S.hget h id fun cs=>S.need (Nat.ble (off+len*z) cs.length)
      (K F ⟨.e,some (.v (.int .i64 ((min n len:Nat):Int))),none,false,h.set id (.cells (spl cs off (xs.take (min n len*(sz+1)))))⟩)
     |false=>False
    |_=>False
   |_,_,_=>False
  |_,_=>False
 | .call {callee:= .value x,args,.. } =>match bD E F.tmg x,mL (args.toList.map (bD E F.tmg))with
  |some (.v (.func (.func g) a b)),some xs=>S.call g (A7 E g (a++xs++b)) h fun v h'=>K F ⟨oH (E.iso g),some (.v v),none,false,h'⟩
  |_,_=>False
 | .lookup t x k ok=>match E.P.underlying t,bJ (bD E F.tmg x),bJ (bD E F.tmg k)with
  |some (.map kt et),some (.map id),some key=>match E.P.underlying kt,dB E.P et with
   |some d,some z=>match lX d key with
    |true=>S.mlook h id d key (fun r=>ldE S E et r fun v=>K F ⟨.r,some (.v (match ok with|true=> .tuple [v,.bool true]|false=>v)),none,false,h⟩)
     (K F ⟨.r,some (.v (match ok with|true=> .tuple [z,.bool false]|false=>z)),none,false,h⟩)
    |false=>False
   |_,_=>False
  |_,_,_=>A6 E f draw o F h K
 | .mapUpdate t m k x=>match E.P.underlying t,bJ (bD E F.tmg m),bJ (bD E F.tmg k),bJ (bD E F.tmg x)with
  |some (.map kt _),some (.map id),some key,some v=>match E.P.underlying kt with
   |some d=>match lX d key with
    |true=>S.mupd h id d key v fun j=>K F ⟨.e,none,none,false,h.set id (.map j)⟩
    |false=>False
   |_=>False
  |_,_,_,_=>False
 | .mapEntry t m k=>match E.P.underlying t,bJ (bD E F.tmg m),bJ (bD E F.tmg k)with
  |some (.map kt et),some (.map id),some key=>match E.P.underlying kt,dB E.P et with
   |some d,some z=>match lX d key with
    |true=>S.ent h id d key z fun v n j=>K F ⟨.e,some (.v (.tuple [v,.int .i64 n])),none,false,h.set id (.map j)⟩
    |false=>False
   |_,_=>False
  |_,_,_=>False
 | .entryStore _ m s x=>match bJ (bD E F.tmg m),bJ (bD E F.tmg s),bJ (bD E F.tmg x)with
  |some (.map id),some (.int _ n),some v=>S.mput h id n v fun j=>K F ⟨.e,none,none,false,h.set id (.map j)⟩
  |_,_,_=>False
 | .convert s d x=>match E.P.underlying s,E.P.underlying d,bJ (bD E F.tmg x)with
  |some (.slice e),some .string,some (.vslice _ _ _ 1 cs)=>match E.P.underlying e with
   |some (.int .u8)=>S.byt cs fun b=>K F ⟨.p,some (.v (.str b)),none,false,h⟩
   |_=>False
  |_,_,_=>A6 E f draw o F h K
 |_=>A6 E f draw o F h K
def opA(n:Nat)(o:Oper)(F:GF)(h:Heap)(K:GF->Ef->Prop):Prop:=match o.op with
 | .makeSlice t l c=>match E.P.underlying t,o.dst,J5 (bD E F.tmg l),J5 (bD E F.tmg c)with
  |some (.slice e),some d,some l,some c=>match fX E.P e,gY E.P e,dB E.P e with
   |some (sz+1),some bytes,some z=>match Nat.beq (cellsOf z).length (sz+1)with
    |true=>S.need (decide (0<=l) && (decide (l<=c) && (decide (c<=9223372036854775807) &&decide (bytes*c<=140737488355328))))
     (match Nat.beq (1-E.A f d) 0 with
      |true=>S.need (Nat.ble 1 l.toNat) (S.fre h n (K F ⟨.a,some (.v (sR n (1-E.A f d) l.toNat (sz+1) (fQ l.toNat (cellsOf z)))),none,false,h.set n (oG (1-E.A f d) l.toNat (sz+1) (fQ l.toNat (cellsOf z)))⟩))
      |false=>S.fre h n (K F ⟨.a,some (.v (sR n (1-E.A f d) l.toNat (sz+1) (fQ l.toNat (cellsOf z)))),none,false,h.set n (oG (1-E.A f d) l.toNat (sz+1) (fQ l.toNat (cellsOf z)))⟩))
    |false=>False
   |_,_,_=>False
  |_,_,_,_=>False
 | .call {callee:= .builtin .append,args,argTypes } =>match argTypes.toList,args.toList with
  | [t,u],[sx,xx]=>match bJ (bD E F.tmg sx),bJ (bD E F.tmg xx),E.P.underlying t,E.P.underlying u,o.dst with
   |some .nilslice,some x,some (.slice e),some du,some d=>match fX E.P e,gY E.P e,dB E.P e with
    |some (sz+1),some (bytes+1),some z=>match Nat.beq (cellsOf z).length (sz+1) &&kM du with
     |true=>match b3A (sz+1) x with
      |some (k,xs)=>S.br (Nat.beq k 0) (K F ⟨.p,some (.v .nilslice),none,false,h⟩)
       (S.need (Nat.ble (k*(bytes+1)) 140737488355328) (S.fre h n (K F ⟨.a,some (.v (sR n (E.A f d) k (sz+1) xs)),none,false,h.set n (oG (E.A f d) k (sz+1) xs)⟩)))
      |none=>False
     |false=>False
    |_,_,_=>False
   |_,_,_,_,_=>False
  |_,_=>False
 |_=>match zJ E f o (bD E F.tmg) n with
  |some (v,none)=>K F ⟨.p,v,none,false,h⟩
  |some (v,some x)=>S.fre h n (K F ⟨.a,v,none,false,h.set n x⟩)
  |none=>False
def Js(ops:List Oper)(o:Oper)(F:GF)(g skip:GF->Prop):Prop:=match o.guard with
 |none=>g F
 |some (j,b)=>match(ops[j]?).bind (·.dst)with
  |some d=>match F.tmg d with
   |some (.v (.bool x))=>S.br x ((match b with|true=>g|false=>skip) (F.put (some d) (some (.v (.bool true))))) ((match b with|true=>skip|false=>g) (F.put (some d) (some (.v (.bool false)))))
   |some .u=>skip F
   |_=>False
  |none=>False
def De(b:Nat)(h:Heap)(A:Prop):Ps->Prop
 | []=>A
 |q::r=>match b.testBit q.1 with
  |true=>De b h A r
  |false=>q.2 h/\De b h A r
def rdK(rs:Nat->Y10)(m:Met)(b:Nat)(id:Y10)(A:Prop):List Nat->Prop
 | []=>A
 |j::r=>match b.testBit j||!(m.a.testBit j)with
  |true=>rdK rs m b id A r
  |false=>match rs j,id with
   |some n,some k=>S.need (!(Nat.beq n k)) (rdK rs m b id A r)
   |_,_=>rdK rs m b id A r
def d0T(g:List Nat)(rs:Nat->Y10)(m:Met)(b:Nat)(id:Y10)(c:Cls)(A:Prop):Prop:=match c with
 | .r=>rdK S rs m b id A g
 |_=>A
def c2K(g:List Nat)(rs:Nat->Y10)(draw:Bool)(m:Met)(ps:Ps)(b:Nat)(id:Y10)(e:Ef)(A:Prop):Prop:=match draw with
 |false=>A
 |true=>match iK (m.chk e.c) b with
  |true=>d0T S g rs m b id e.c A
  |false=>match e.c with
   | .e=>match iK (m.e|||m.a) b with
    |true=>De b e.h A ps
    |false=>False
   |_=>False
def Wn(ops:List Oper)(draw:Bool)(bef:Nat->Nat)(j:List Nat)(rs:Nat->Y10):List (Oper×Nat)->Met->Ps->GF->Heap->(GF->Heap->Prop)->Prop
 | [],_,_,F,h,K=>K F h
 | (o,i)::r,m,ps,F,h,K=>Js S ops o F
  (fun g=>(match rs i with
   |none=>opW S E f draw o g h
   |some n=>opA S E f n o g h) fun l e=>c2K S j rs draw m ps (bef i) (iX o (bD E g.tmg)) e (Wn ops draw bef j rs r (m.add e.c i) (M9 E o (bD E F.tmg) e i ps) (l.app o.dst e) e.h K))
  (fun F=>Wn ops draw bef j rs r m ps (F.put o.dst (some .u)) h K)
def eJ:Code->Nat
 | .region id _ _=>id+1
 | .seq a b=>match eJ a with
  |0=>eJ b
  |n=>n
 | .cond _ a b=>match eJ a with
  |0=>eJ b
  |n=>n
 | .block _ c=>eJ c
 | .loop c=>eJ c
 | .scope c=>eJ c
 |_=>0
def dUn(g:GF->Heap->(Ex->GF->Heap->Prop)->Prop):Nat->GF->Heap->(Ex->GF->Heap->Prop)->Prop
 |0,_,_,_=>False
 |n+1,F,h,K=>g F h fun x F h=>match x with
  | .normal=>dUn g n F h K
  |x=>K x F h
variable (U:Nat->Nat) (IL IC:Nat->Option Inv')
def dC:Code->GF->Heap->(Ex->GF->Heap->Prop)->Prop
 | .skip,F,h,K=>K .normal F h
 | .region id ops draw,F,h,K=>match E.an f id with
  | []=>Wn S E f ops.toList draw (zV ops) [] (fun _=>none) (wB (E.od f id) draw ops.toList) {} [] (F.start E f ops.toList draw) h fun F h=>K .normal F h
  |j::r=>Wn S E f ops.toList draw (zV ops) (j::r) (Ix h.next (j::r)) (wB (E.od f id) draw ops.toList) {} [] (F.start E f ops.toList draw) (h.reserve (r.length+1)) fun F h=>K .normal F h
 | .seq a b,F,h,K=>match IC (eJ b)with
  |none=>match IC (Nat.add (eJ b) 1000000)with
   |none=>dC a F h fun x F h=>match x with
    | .normal=>dC b F h K
    |x=>K x F h
   |some v=> ∃M:Nat,(dC a F h fun x F h=>match x with
    | .normal=>v.J F h fun m=>m<=M
    |x=>K x F h)/\v.I fun G h m=>m<=M->dC b G h K
  |some v=>(dC a F h fun x F h=>match x with
   | .normal=>v.J F h fun _=>True
   |x=>K x F h)/\v.I fun G h _=>dC b G h K
 | .cond c a b,F,h,K=>match bD E F.tmg c with
  |some (.v (.bool x))=>S.br x (dC a (Dd c F true) h K) (dC b (Dd c F false) h K)
  |_=>False
 | .block id c,F,h,K=>dC c F h fun x F h=>match x with
  | .exit id'=>match Nat.beq id' id with
   |true=>K .normal F h
   |false=>K (.exit id') F h
  |x=>K x F h
 | .loop c,F,h,K=>match U (eJ c)with
  |n+1=>dUn (dC c) (n+1) F h K
  |0=>match IL (eJ c)with
   |some v=>(v.J F h fun _=>True)/\v.I fun G h m=>dC c G h fun x G h=>match x with
    | .normal=>v.J G h fun g=>g<m
    |x=>K x G h
   |none=>match IL (Nat.add (eJ c) 1000000)with
    |some v=> ∃M:Nat,(v.J F h fun m=>m<=M)/\v.I fun G h m=>m<=M->dC c G h fun x G h=>match x with
     | .normal=>v.J G h fun g=>g<m
     |x=>K x G h
    |none=>False
 | .exit id,F,h,K=>K (.exit id) F h
 | .scope c,F,h,K=>dC c F h K
 | .ret,F,h,K=>K .ret F h
 |_,_,_,_=>False
def b4D(id:Nat)(K:Ex->GF->Heap->Prop)(x:Ex)(F:GF)(h:Heap):Prop:=match x with
 | .exit id'=>match Nat.beq id' id with
  |true=>K .normal F h
  |false=>K (.exit id') F h
 |x=>K x F h
def Jt:Code->GF->Heap->(Ex->GF->Heap->Prop)->Prop
 | .seq a b,F,h,K=>match IC (eJ b)with
  |none=>dC S E f U IL IC a F h fun x F h=>match x with
   | .normal=>Jt b F h K
   |x=>K x F h
  |some v=>dC S E f U IL IC a F h fun x F h=>match x with
   | .normal=>v.J F h fun _=>True
   |x=>K x F h
 | .block id c,F,h,K=>Jt c F h (b4D id K)
 | .scope c,F,h,K=>Jt c F h K
 |c,F,h,K=>dC S E f U IL IC c F h K
def A8:Code->(Ex->GF->Heap->Prop)->Prop
 | .seq _ b,K=>match IC (eJ b)with
  |none=>A8 b K
  |some v=>(v.I fun G h _=>Jt S E f U IL IC b G h K)/\A8 b K
 | .block id c,K=>A8 c (b4D id K)
 | .scope c,K=>A8 c K
 |_,_=>True
def Zt:Nat:=99999999
def c2L(F:GF)(h:Heap)(K:IV->Prop):ResultVar->Prop
 | .tmp t=>match bJ (F.tmg t)with
  |some v=>K v
  |none=>False
 | .cell a t=>match F.tmg a with
  |some (.l s off)=>match F.lvg s with
   |some cs=>Ca S E f (some a) t cs off K
   |none=>False
  |some (.v (.ptr id off))=>S.hget h id fun cs=>Ca S E f (some a) t cs off K
  |_=>False
def A9(F:GF)(h:Heap):List ResultVar->(Y14->Prop)->Prop
 | [],K=>K []
 |r::rs,K=>c2L S E f F h (fun v=>A9 F h rs fun vs=>K (v::vs)) r
def S7:Y14->Nat->PT (Option TV)->PT (Option TV)
 | [],_,t=>t
 |v::r,i,t=>S7 r (i+1) (t.set i (some (some (.v v))))
def S8(g:Y14):GF:=⟨S7 g 0 .nil,.nil,FF.none⟩
def Qo(h:Heap)(v:IV)(K:IV->Heap->Prop):Prop:=match v with
 | .hslice id off len sz=>S.hget h id fun cs=>S.need (Nat.ble 1 sz&&Nat.ble (off+len*sz) cs.length) (K (.vslice none 0 len sz ((cs.drop off).take (len*sz))) (h.set id .dead))
 |v=>K v h
def N0(g:Heap->IV->(IV->Heap->Prop)->Prop):Y14->Heap->(Y14->Heap->Prop)->Prop
 | [],h,K=>K [] h
 |v::r,h,K=>g h v fun l h'=>N0 g r h' fun j i=>K (l::j) i
def Qp(h:Heap)(v:IV)(K:IV->Heap->Prop):Prop:=match v with
 | .agg cs=>N0 (Qo S) cs h fun cs' h'=>K (.agg cs') h'
 |v=>Qo S h v K
inductive FrzR(h:Heap)(cs:Y14):Y14->Heap->Prop
 |mk:FrzR h cs (cs.map (mW h)) (Yq h cs)
def Zu(h:Heap)(v:IV)(K:IV->Heap->Prop):Prop:=Qp S h v fun v' h'=>match v' with
 | .vslice none e len sz cs=> ∀(cs':Y14)(g:Heap),FrzR h' cs cs' g->K (.vslice none e len sz cs') g
 |v'=>K v' h'
def S9(vs:Y14)(h:Heap)(K:Y14->Prop):Prop:=match E.fz f with
 |true=>match E.fd f with
  |true=>N0 (Zu S) vs h fun g _=>K g
  |false=>N0 (Qp S) vs h fun g _=>K g
 |false=>K vs
def Qq(rs:List ResultVar)(c:Code)(g:Y14)(h:Heap)(K:Y14->Heap->Prop):Prop:=
 match IC Zt with
 |none=>dC S E f U IL IC c (S8 g) h fun x F h'=>match x with
  | .exit _=>False
  |_=>A9 S E f F h' rs fun vs=>K vs h'
 |some _=>(Jt S E f U IL IC c (S8 g) h fun x F h'=>match x with
  | .exit _=>False
  |_=>A9 S E f F h' rs fun vs=>K vs h')/\A8 S E f U IL IC c fun x F h'=>match x with
  | .exit _=>False
  |_=>A9 S E f F h' rs fun vs=>K vs h'
def dF(g:Y14)(h:Heap)(Q:IV->Heap->Prop):Prop:=match E.P.funcs[f]? with
 |some fn=>match fn.body with
  |some c=>match E.iso f with
   |false=>Qq S E f U IL IC fn.results.toList c (wC E f fn.params.toList g) h fun vs h'=>match E.fz f with
    |true=>Q (iO E f (iN (wC E f fn.resultTypes.toList vs)) h').1 (iO E f (iN (wC E f fn.resultTypes.toList vs)) h').2
    |false=>Q (iN (wC E f fn.resultTypes.toList vs)) h'
   |true=>S.need (aM (gS E.P fn.params.toList g)) (Qq S E f U IL IC fn.results.toList c (gS E.P fn.params.toList g) Heap.empty fun vs h'=>
    S9 S E f vs h' fun ws=>S.need (aM (gS E.P fn.resultTypes.toList ws)) (Q (iN (gS E.P fn.resultTypes.toList ws)) h))
  |none=>False
 |none=>False
end
end Go.Pv
end
end
