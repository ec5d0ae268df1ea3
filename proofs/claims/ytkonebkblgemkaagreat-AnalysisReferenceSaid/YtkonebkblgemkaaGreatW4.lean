/-
  Texts of this proof, one after the other.
  Conditions: none.
-/
import Derived.Test.YtkonebkblgemkaaGreatW3
set_option linter.unusedVariables false
set_option linter.unusedSimpArgs false
set_option maxRecDepth 100000
set_option maxHeartbeats 4000000
noncomputable section
variable{i j m b:Nat}{x y z u v:Int}{h g:Go.Pv.Heap}{c d l:List Go.Pv.IV}{K L:Y12}{s t:Go.Pv.IV}{D:Go.Pv.Meta}{V W:List Go.Value}{T U:Go.TypeId}{o:Bool}{X Y:Go.Value}{r:Y11}{O:Go.Oper}{N:Y10}{H:Array Go.Value}
section
namespace Go.Pv
section
variable {E:Env} {f:FuncId} {o:Oper} {ev ev':Operand->Option TV} {h:Heap}
theorem H7{l:List Operand}(g: ∀x∈l,ev x=ev' x):l.map ev=l.map ev':=FT g
theorem D4{l:List (Nat×Operand)}(g: ∀x∈l.map (·.2),ev x=ev' x):(l.map λ(i,x)=>(i,ev x))=l.map λ(i,x)=>(i,ev' x):=
 FT λp j=>by
  obtain⟨i,x⟩:=p;simp only [g x (DU.2 ⟨(i,x),j,rfl⟩)]
theorem I6{x:Option Operand}(g: ∀y,x=some y->ev y=ev' y):x.map ev=x.map ev':=by
 cases x with
 |none=>rfl
 |some y=>simp [g y rfl]
theorem b2D(g: ∀x∈o.op.operands,ev x=ev' x):eQ E f o ev=eQ E f o ev':=by
 unfold eQ
 cases hop:o.op<;>simp only [hop,Op.operands]at g⊢
 case move x=>rw [g x KB]
 case assign x=>rw [g x KB]
 case pick c a b=>rw [g c KB,g a KB,g b KB]
 case box t x=>rw [g x KB]
 case build t ps=>rw [D4 (ev:=ev) (ev':=ev') (λx m=>g x (by simpa using m))]
 case buildSlice t n ps=>rw [D4 (ev:=ev) (ev':=ev') (λx m=>g x (by simpa using m))]
 case load t x=>rw [g x KB]
 case nilCheck x=>rw [g x KB]
 case binOp op t x y u=>rw [g x KB,g y KB]
 case unOp op t x=>rw [g x KB]
 case convert s d x=>rw [g x KB]
 case makeInterface t x=>rw [g x KB]
 case makeFunc fn a b=>rw [H7 (ev:=ev) (ev':=ev') (λx m=>g x (by simp at m⊢;exact .inl m)),H7 (ev:=ev) (ev':=ev') (l:=b.toList) (λx m=>g x (by simp at m⊢;exact .inr m))]
 case slice t x lo hi mx=>
  rw [g x KB,I6 (ev:=ev) (ev':=ev') (λy A=>g y (by subst A;simp)),I6 (ev:=ev) (ev':=ev') (x:=hi) (λy A=>g y (by subst A;simp))]
 case fieldAddr t x i=>rw [g x KB]
 case field t x i=>rw [g x KB]
 case indexAddr t x i=>rw [g x KB,g i KB]
 case index t x i=>rw [g x KB,g i KB]
 case extract x i=>rw [g x KB]
 case typeAssert x s t ok=>rw [g x KB]
 case call c=>
  obtain⟨r,j,z⟩:=c
  cases r with
  |value x=>rfl
  |invoke x n=>rfl
  |builtin b=>
   have D: ∀x∈j.toList,ev x=ev' x:=λx m=>g x (by simp [Call.operands];simpa using m)
   have h0:((j[0]?).bind λx=>bH (ev x))=(j[0]?).bind λx=>bH (ev' x):=by
    cases hq:j[0]? with
    |none=>rfl
    |some y=>
     have:y∈j.toList:=by
      rw [<-Array.getElem?_toList]at hq;exact EM hq
     simp [D y this]
   cases b<;>simp only [h0,H7 D]
theorem b1J{lv lv':Nat->Option (Y14)}(g: ∀x∈o.op.operands,ev x=ev' x)(i: ∀s,lv s=lv' s):gI E o ev lv=gI E o ev' lv':=by
 have:lv=lv':=funext i;subst this;unfold gI
 cases hop:o.op<;>simp only [hop,Op.operands]at g⊢
 case load t x=>rw [g x KB]
theorem b2T{lv lv':Nat->Option (Y14)}(g: ∀x∈o.op.operands,ev x=ev' x)(i: ∀s,lv s=lv' s):iX E o ev lv=iX E o ev' lv':=by
 have:lv=lv':=funext i;subst this;unfold iX
 cases hop:o.op<;>simp only [hop,Op.operands]at g⊢
 case store t a x=>rw [g a KB,g x KB]
theorem X3(j: ∀x∈o.op.operands,ev x=ev' x):dR E o ev h=dR E o ev' h:=by
 unfold dR
 cases hop:o.op<;>simp only [hop,Op.operands]at j⊢
 case load t x=>rw [j x KB]
 case convert s d x=>rw [j x KB]
 case slice t x lo hi mx=>
  rw [j x KB,I6 (ev:=ev) (ev':=ev') (λy m=>j y (by subst m;simp)),I6 (ev:=ev) (ev':=ev') (x:=hi) (λy m=>j y (by subst m;simp))]
 case lookup t x k ok=>rw [j x KB,j k KB]
 case call c=>
  obtain⟨i,g,l⟩:=c
  cases i with
  |value x=>rfl
  |invoke x n=>rfl
  |builtin b=>
   have r: ∀x∈g.toList,ev x=ev' x:=λx u=>j x (by simp [Call.operands];simpa using u)
   have h0:((g[0]?).bind λx=>bH (ev x))=(g[0]?).bind λx=>bH (ev' x):=by
    cases hq:g[0]? with
    |none=>rfl
    |some y=>
     have:y∈g.toList:=by
      rw [<-Array.getElem?_toList]at hq;exact EM hq
     simp [r y this]
   cases b<;>simp only [h0]
theorem b0U(g: ∀x∈o.op.operands,ev x=ev' x):iM E f o ev h=iM E f o ev' h:=by
 unfold iM
 cases hop:o.op<;>simp only [hop,Op.operands]at g⊢
 case move x=>rw [g x KB]
 case box t x=>rw [g x KB]
 case buildSlice t n ps=>rw [D4 (ev:=ev) (ev':=ev') (λx z=>g x (by simpa using z))]
 case makeSlice t l c=>rw [g l KB,g c KB]
 case convert s d x=>rw [g x KB]
 case store t a x=>rw [g a KB,g x KB]
 case mapUpdate t m k x=>rw [g m KB,g k KB,g x KB]
 case mapEntry t m k=>rw [g m KB,g k KB]
 case entryStore t m s x=>rw [g m KB,g s KB,g x KB]
 case call c=>
  obtain⟨j,u,r⟩:=c
  cases j with
  |value x=>rfl
  |invoke x n=>rfl
  |builtin b=>
   have y: ∀x∈u.toList,ev x=ev' x:=λx z=>g x (by simp [Call.operands];simpa using z)
   cases b<;>try rfl
   .simp only;split
    .rename_i A D _ i;rw [y A (by rw [i];simp),y D (by rw [i];simp)]
    .rfl
   .simp only;split
    .rename_i A D _ i;rw [y A (by rw [i];simp),y D (by rw [i];simp)]
    .rfl
theorem b4I{n:Nat}(r: ∀x∈o.op.operands,ev x=ev' x):Bl E f o ev n=Bl E f o ev' n:=by
 unfold Bl
 cases hop:o.op<;>simp only [hop,Op.operands]at r⊢
 case makeSlice t l c=>rw [r l KB,r c KB]
 case call c=>
  obtain⟨g,j,i⟩:=c
  cases g with
  |value x=>rfl
  |invoke x n=>rfl
  |builtin b=>
   have u: ∀x∈j.toList,ev x=ev' x:=λx y=>r x (by simp [Call.operands];simpa using y)
   cases b<;>try rfl
   simp only;split
   .rename_i z A _ m;rw [u z (by rw [m];simp),u A (by rw [m];simp)]
   .rfl
theorem X5(l: ∀x∈o.op.operands,ev x=ev' x):mL o ev=mL o ev':=by
 unfold mL
 cases hop:o.op<;>simp only [hop,Op.operands]at l⊢
 case load t x=>rw [l x KB]
 case convert s d x=>rw [l x KB]
 case slice t x lo hi mx=>rw [l x KB]
 case lookup t x k ok=>rw [l x KB]
 case call c=>
  obtain⟨i,g,j⟩:=c
  cases i with
  |value x=>rfl
  |invoke x n=>rfl
  |builtin b=>
   have m: ∀x∈g.toList,ev x=ev' x:=λx r=>l x (by simp [Call.operands];simpa using r)
   have h0:((g[0]?).bind λx=>bH (ev x))=(g[0]?).bind λx=>bH (ev' x):=by
    cases hq:g[0]? with
    |none=>rfl
    |some y=>
     have:y∈g.toList:=by
      rw [<-Array.getElem?_toList]at hq;exact EM hq
     simp [m y this]
   cases b<;>simp only [h0]
theorem Qj(l: ∀x∈o.op.operands,ev x=ev' x):dI o ev=dI o ev':=by
 unfold dI
 cases hop:o.op<;>simp only [hop,Op.operands]at l⊢
 case call c=>
  obtain⟨g,j,i⟩:=c
  cases g with
  |builtin b=>rfl
  |invoke x n=>rfl
  |value x=>
   have r: ∀x∈j.toList,ev x=ev' x:=λy m=>l y (by simp [Call.operands];simp at m;exact .inr m)
   simp only;rw [l x (by simp [Call.operands]),H7 r]
end
def pO(h h2:Heap):Y10->Prop
 |none=>True
 |some id=>h2.get id=h.get id
theorem X4{E:Env}{o:Oper}{ev:Operand->Option TV}{h h2:Heap}{v:TV}(g:dR E o ev h=some v)(j:pO h h2 (mL o ev)):dR E o ev h2=some v:=by
 unfold mL at j;unfold dR at g⊢;split at g
 .rename_i t a i;simp only [i]at j⊢;split at g
  .rename_i id y G;simp only [G,pO]at j⊢;rw [j];exact g
  .cases g
 .rename_i s d x i;simp only [i]at j⊢;split at g
  .rename_i e id y len z l u;simp only [u,pO]at j;simp only [z,l,u,j];exact g
  .cases g
 .rename_i t x lo O T i;simp only [i]at j⊢;split at g
  .rename_i n e id y l u;simp only [u,pO]at j;simp only [l,u,j];exact g
  .cases g
 .rename_i t x k V i;simp only [i]at j⊢;split at g
  .rename_i R L m K z l u
   cases m with
   |map id=>
    rw [l]at j;have A:h2.get id=h.get id:=j;simp only [A]at g⊢;exact g
   |_=>exact g
  .cases g
 .rename_i D r _ i;simp only [i]at j⊢;split at g
  .rename_i t id z l;simp only [l,pO]at j;simp only [z,l,j];exact g
  .cases g
 .cases g
theorem b2G{E:Env}{o:Oper}{ev:Operand->Option TV}{h:Heap}{v:TV}{id:Nat}(g:dR E o ev h=some v)(j:mL o ev=some id):h.get id≠ .free:=by
 intro hf;unfold mL at j;unfold dR at g;split at g
 .rename_i t a i;simp only [i]at j;split at g
  .rename_i l y G;simp only [G,AC]at j;subst j;rw [hf]at g;cases g
  .cases g
 .rename_i s d x i;simp only [i]at j;split at g
  .rename_i e l y len D u z;simp only [z,AC]at j;subst j;simp only [hf]at g;split at g
   .simp_all
   .cases g
  .cases g
 .rename_i t x lo K T i;simp only [i]at j;split at g
  .rename_i n e l y u z;simp only [z,AC]at j;subst j;rw [hf]at g;simp at g
  .cases g
 .rename_i t x k V i;simp only [i]at j;split at g
  .rename_i R O m L D u z;rw [u]at j
   cases m with
   |map l=>
    simp only [AC]at j;subst j;simp only [hf]at g;split at g
    .simp_all
    .cases g
   |_=>cases j
  .cases g
 .rename_i A r _ i;simp only [i]at j;split at g
  .rename_i t l D u;simp only [u,AC]at j;subst j;rw [hf]at g;simp at g
  .cases g
 .cases g
structure FF where
 tm:Nat->Option TV
 lv:Nat->Option (Y14)
def Fr.ff(g:Fr):FF:=⟨g.tm.get,g.lv.get⟩
def FF.put(F:FF)(d:Option Tmp)(v:Option TV):FF:=
 match d with
 |some t=> {F with tm:=λk=>if k=t then v else F.tm k }
 |none=>F
def FF.lset(F:FF)(s:Nat)(cs:Y14):FF:= {F with lv:=λk=>if k=s then some cs else F.lv k }
def FF.clr(F:FF)(s:Nat):FF:= {F with tm:=λk=>match F.tm k with|some x=>if wL s x then some x else none|none=>none }
def FF.app(F:FF)(d:Option Tmp)(e:Ef):FF:=
 match e.loc with
 |some (s,cs)=>if e.box then((F.clr s).lset s cs).put d e.v else(F.put d e.v).lset s cs
 |none=>F.put d e.v
theorem a1R(g:Fr)(d:Option Tmp)(v:Option TV):(g.put d v).ff=g.ff.put d v:=by
 cases d with
 |none=>rfl
 |some t=>
  simp only [Fr.put,Fr.ff,FF.put]
  congr 1
  funext k;rw [PT.get_set]
theorem b7M(g:Fr)(d:Option Tmp)(e:Ef):(g.app d e).ff=g.ff.app d e:=by
 unfold Fr.app FF.app
 cases e.loc with
 |none=>exact a1R _ _ _
 |some q=>
  obtain⟨s,cs⟩:=q;simp only;split
  .rw [a1R]
   congr 1
   simp only [Fr.box,Fr.ff,FF.lset,FF.clr]
   congr 1
   .funext k;rw [PT.get_filt];cases g.tm.get k<;>rfl
   .funext k;rw [PT.get_set]
  .have h1:=a1R g d e.v;have h2:(g.put d e.v).lv=g.lv:=by cases d<;>rfl
   have h3:(Fr.ff {g.put d e.v with lv:=g.lv.set s (some cs) })=(Fr.ff (g.put d e.v)).lset s cs:=by
    simp only [Fr.ff,FF.lset]
    congr 1
    funext k;rw [PT.get_set,h2]
   rw [h3,h1]
section
variable (E:Env) (f:FuncId) (cf:FuncId->Y14->Heap->Option (IV×Heap)) (ops:List Oper) (bef:Nat->Nat)
def Uh(g:List Nat)(rs:Nat->Y10)(draw:Bool):List (Oper×Nat)->Met->Pd->FF->Heap->FF->Heap->Prop
 | [],_,_,F,h,F',h'=>F=F'/\h=h'
 | (o,i)::r,m,pd,F,h,F',h'=> ∃e,dJ E f cf ops draw (rs i) o F.tm F.lv h=some e/\(draw=true->okB g rs m pd (bef i) (mL o (bC E F.tm)) e=true)/\Uh g rs draw r (m.add e.c i) (pL E o (bC E F.tm) e i pd) (F.app o.dst e) e.h F' h'
theorem a8Y{y:List Nat}{rs:Nat->Y10}{draw:Bool} : ∀{l:List (Oper×Nat)}{m:Met}{u:Pd}{j g:Fr}{h h':Heap},pN E f cf ops draw bef y rs l m u j h=some (g,h')->Uh E f cf ops bef y rs draw l m u j.ff h g.ff h'
 | [],m,u,j,g,h,h',hr=>by simp [pN]at hr;obtain⟨rfl,rfl⟩:=hr;exact⟨rfl,rfl⟩
 | (o,i)::r,m,u,j,g,h,h',hr=>by
  unfold pN at hr;split at hr
  case h_2=>simp at hr
  rename_i e z;split at hr
  case isFalse=>simp at hr
  rename_i A;refine⟨e,z,λhd=>by subst hd;simpa [Fr.ff]using A,?_⟩;rw [<-b7M];exact a8Y hr
end
mutual
theorem Ra: ∀{a b:IV},a1Z a b=true->a=b:=by
 intro a b h
 cases a<;>cases b<;>simp only [a1Z,AE,decide_eq_true_eq,beq_iff_eq,BA]at h
 all_goals first
  |rfl
  | (subst h;rfl)
  | (obtain⟨h1,h2⟩:=h;have e1:=AP h1;have e2:=AP h2;subst e1;subst e2;rfl)
  | (obtain⟨h1,h2⟩:=h;subst h1;subst h2;rfl)
  | (have e1:=AP h;subst e1;rfl)
  | (have e1:=sE h;subst e1;rfl)
  | (obtain⟨h1,h2⟩:=h;have e1:=AP h1;have e2:=sE h2;subst e1;subst e2;rfl)
  | (obtain⟨h1,h2,h3⟩:=h;have e2:=sE h2;have e3:=sE h3;subst h1;subst e2;subst e3;rfl)
  | (obtain⟨h1,h2⟩:=h;have e2:=Ra h2;subst h1;subst e2;rfl)
  | (obtain⟨h1,h2,h3,h4⟩:=h;have e1:=AP h1;have e2:=AP h2;have e3:=AP h3;have e4:=AP h4;subst e1;subst e2;subst e3;subst e4;rfl)
  | (obtain⟨h1,h2,h3,h4,h5⟩:=h;have e2:=AP h2;have e3:=AP h3;have e4:=AP h4;have e5:=sE h5;subst h1;subst e2;subst e3;subst e4;subst e5;rfl)
theorem sE: ∀{a b:Y14},sD a b=true->a=b:=by
 intro a b h
 cases a with
 |nil=>cases b with
  |nil=>rfl
  |cons y r=>simp [sD]at h
 |cons x l=>cases b with
  |nil=>simp [sD]at h
  |cons y r=>
   simp only [sD,AE]at h;rw [Ra h.1,sE h.2]
end
mutual
theorem V4: ∀a:IV,a1Z a a=true:=by
 intro a;have nb: ∀n:Nat,Nat.beq n n=true:=λn=>JR n
 cases a<;>simp only [a1Z,nb,decide_true,EI,beq_self_eq_true,BD]
 all_goals first
  |exact uL _
  | (rw [uL,uL];rfl)
  |exact V4 _
theorem uL: ∀a:Y14,sD a a=true:=by
 intro a
 cases a with
 |nil=>rfl
 |cons x r=>simp only [sD,V4 x,uL r,EI]
end
theorem d1I{a b:TV}(h:d1H a b=true):a=b:=by
 unfold d1H at h;split at h
 .rw [Ra h]
 .cases h
def lA:Cls->Cls->Bool
 | .l,.s=>true
 | .s,.l=>true
 | .s,.s=>true
 | .r,.e=>true
 | .e,.r=>true
 | .e,.e=>true
 | .a,.e=>true
 | .e,.a=>true
 |_,_=>false
section
variable {E:Env} {f:FuncId} {cf:FuncId->Y14->Heap->Option (IV×Heap)} {ops:List Oper}
theorem No{o:Oper}{ev:Operand->Option TV}{lv:Nat->Option (Y14)}{v:TV}(h:gI E o ev lv=some v): ∃t a s g,o.op= .load t a/\ev a=some (.l s g):=by
 unfold gI at h;split at h
 .rename_i t a i;split at h
  .rename_i s g j;exact⟨t,a,s,g,i,j⟩
  .simp at h
 .simp at h
theorem D7{o:Oper}{ev:Operand->Option TV}{lv:Nat->Option (Y14)}{v:Nat×Y14}(h:iX E o ev lv=some v): ∃t a x s g,o.op= .store t a x/\ev a=some (.l s g):=by
 unfold iX at h;split at h
 .rename_i t a x i;split at h
  .rename_i s g r j m;exact⟨t,a,x,s,g,i,j⟩
  .simp at h
 .simp at h
theorem pH{o:Oper}{ev:Operand->Option TV}{h:Heap}(l:(dR E o ev h).isSome\/ (iM E f o ev h).isSome\/ (dI o ev).isSome)(lv:Nat->Option (Y14)):gI E o ev lv=none/\iX E o ev lv=none:=by
 constructor
 .cases hl:gI E o ev lv with
  |none=>rfl
  |some v=>
   obtain⟨t,a,s,j,g,i⟩:=No hl;simp [dR,iM,dI,g,i]at l
 .cases hl:iX E o ev lv with
  |none=>rfl
  |some v=>
   obtain⟨t,a,x,s,j,g,i⟩:=D7 hl;simp [dR,iM,dI,g,i]at l
theorem b2H{o:Oper}{ev:Operand->Option TV}{h:Heap}(j:(iM E f o ev h).isSome\/ (dI o ev).isSome)(h2:Heap):dR E o ev h2=none:=by
 cases hr:dR E o ev h2 with
 |none=>rfl
 |some v=>
  unfold dR at hr
  cases hop:o.op<;>simp only [hop]at hr<;>try (simp at hr;done)
  case load t a=>simp [iM,dI,hop]at j
  case convert s d x=>
   split at hr
   .rename_i e id r len h1 l h3;simp [iM,dI,hop,h1,l,h3]at j
   .simp at hr
  case slice t x lo hi mx=>simp [iM,dI,hop]at j
  case lookup t x k ok=>simp [iM,dI,hop]at j
  case call c=>
   obtain⟨g,m,i⟩:=c
   cases g with
   |value x=>simp at hr
   |invoke x n=>simp at hr
   |builtin b=>cases b<;>simp at hr<;>simp [iM,dI,hop]at j
theorem b7I{o:Oper}{j:Nat->Option TV}{x:Operand}{s i:Nat}(m:x∈o.op.operands)(h:bC E j x=some (.l s i)): ∃t,t∈o.looksAt ops.toArray/\j t=some (.l s i):=by
 cases x with
 |tmp t=>
  refine⟨t,?_,h⟩;simp only [Oper.looksAt,BZ,GD];exact .inl ⟨.tmp t,by simpa using m,rfl⟩
 |const v=>
  simp only [bC]at h;obtain⟨y,_,h2⟩:=AD.1 h
  cases h2
 |global g=>
  simp only [bC]at h;obtain⟨y,_,h2⟩:=AD.1 h
  cases h2
 |func g=>simp [bC]at h
theorem c8I{o:Oper}{ev:Operand->Option TV}{lv:Nat->Option (Y14)}{v:TV}(h:gI E o ev lv=some v): ∃x∈o.op.operands,∃s g,ev x=some (.l s g)/\(∃cs,lv s=some cs)/\∀lv2,lv2 s=lv s->gI E o ev lv2=some v:=by
 unfold gI at h;split at h
 .rename_i t a i;split at h
  .rename_i s g j;refine⟨a,by simp [i,Op.operands],s,g,j,?_,λlv2 e=>?_⟩
   .split at h
    .rename_i cs m;exact⟨cs,m⟩
    .simp at h
   .simp only [gI,i,j,e];exact h
  .simp at h
 .simp at h
theorem d0T{o:Oper}{ev:Operand->Option TV}{lv:Nat->Option (Y14)}{q:Nat×Y14}(h:iX E o ev lv=some q): ∃x∈o.op.operands,∃g,ev x=some (.l q.1 g)/\(∃cs,lv q.1=some cs)/\∀lv2,lv2 q.1=lv q.1->iX E o ev lv2=some q:=by
 unfold iX at h;split at h
 .rename_i t a x i;split at h
  .rename_i s g v j r;split at h
   .rename_i cs m;obtain⟨y,h1,h2⟩:=AD.1 h;subst h2;refine⟨a,by simp [i,Op.operands],g,j,⟨cs,m⟩,λlv2 e=>?_⟩;simp only at e;simp only [iX,i,j,r,e,m];exact h
   .simp at h
  .simp at h
 .simp at h
theorem b1K{o:Oper}{ev:Operand->Option TV}{lv lv2:Nat->Option (Y14)}{q:Nat×Y14}(h:iX E o ev lv=some q):gI E o ev lv2=none:=by
 obtain⟨t,a,x,s,i,g,j⟩:=D7 h;simp [gI,g]
def vH(E:Env)(cf:FuncId->Y14->Heap->Option (IV×Heap)):Prop:= ∀g,E.iso g=true-> ∀xs h v h',cf g xs h=some (v,h')->h'=h/\∀h2,cf g xs h2=some (v,h2)
theorem b0V{o:Oper}{ev:Operand->Option TV}(i:(dI o ev).isSome)(h2:Heap):iM E f o ev h2=none:=by
 unfold dI at i;split at i
 .rename_i x j _ g;simp [iM,g]
 .simp at i
theorem Mw(G:vH E cf){o:Oper}{j:Nat->Option TV}{lv:Nat->Option (Y14)}{h:Heap}{e:Ef}(i:C4 E f cf ops true o j lv h=some e):
  e.box=false/\
  (e.c= .p->e.loc=none/\e.h=h/\∀lv2 h2,C4 E f cf ops true o j lv2 h2=some {e with h:=h2 })/\
  (e.c= .l->e.loc=none/\e.h=h/\∃t s m,t∈o.looksAt ops.toArray/\j t=some (.l s m)/\(∃cs,lv s=some cs)/\∀lv2 h2,lv2 s=lv s->C4 E f cf ops true o j lv2 h2=some {e with h:=h2 })/\
  (e.c= .s->e.h=h/\∃t s m cs,t∈o.looksAt ops.toArray/\j t=some (.l s m)/\(∃cs,lv s=some cs)/\e.loc=some (s,cs)/\∀lv2 h2,lv2 s=lv s->C4 E f cf ops true o j lv2 h2=some {e with h:=h2 })/\
  (e.c= .r->e.loc=none/\e.h=h/\∀lv2,C4 E f cf ops true o j lv2 h=some e)/\
  (e.c= .e->e.loc=none/\∀lv2,C4 E f cf ops true o j lv2 h=some e)/\
  (e.c= .b->e.h=h/\∃d cs,o.dst=some d/\e.loc=some (d,cs)/\lv d=none/\∀lv2 h2,lv2 d=none->C4 E f cf ops true o j lv2 h2=some {e with h:=h2 }):=by
 unfold C4 at i
 cases hw:dK ops j o with
 |none=>simp [hw]at i
 |some b=>
  simp only [hw]at i
  cases b with
  |false=>
   simp only [AC]at i;subst i;refine⟨rfl,λ_=>⟨rfl,rfl,λlv2 h2=>by simp [C4,hw]⟩,?_,?_,?_,?_,?_⟩<;>intro hc<;>simp at hc
  |true=>
   simp only at i;have X: ∀lv2 h2,C4 E f cf ops true o j lv2 h2=eJ E f cf true o (bC E j) lv2 h2:=λlv2 h2=>by simp [C4,hw]
   simp only [X];unfold eJ at i⊢
   cases hp:eQ E f o (bC E j)with
   |some q=>
    obtain⟨v,bx⟩:=q;simp only [hp]at i⊢;split at i
    .rename_i cs d hd;simp only [if_true]at i;split at i
     case h_2=>cases i
     rename_i R;simp only [AC]at i;subst i;refine⟨rfl,?_,?_,?_,?_,?_,λ_=>⟨rfl,d,cs,hd,rfl,R,λlv2 h2 e=>by simp [e]⟩⟩<;>intro hc<;>simp at hc
    .rename_i Y;simp only [AC]at i;subst i;refine⟨rfl,λ_=>⟨rfl,rfl,λlv2 h2=>rfl⟩,?_,?_,?_,?_,?_⟩<;>intro hc<;>simp at hc
    .simp at i
   |none=>
    simp only [hp]at i⊢
    cases hl:gI E o (bC E j) lv with
    |some v=>
     simp only [hl,AC]at i;subst i;obtain⟨x,V,s,m,h1,h2,h3⟩:=c8I hl;obtain⟨t,y,z⟩:=b7I (ops:=ops) V h1;refine⟨rfl,?_,λ_=>⟨rfl,rfl,t,s,m,y,z,h2,λlv2 K e=>by simp only [h3 lv2 e]⟩,?_,?_,?_,?_⟩<;>intro hc<;>simp at hc
    |none=>
     simp only [hl]at i
     cases hs:iX E o (bC E j) lv with
     |some q=>
      obtain⟨x,V,m,h1,h2,h3⟩:=d0T hs;obtain⟨t,y,z⟩:=b7I (ops:=ops) V h1;have O:=λlv2=>b1K (lv2:=lv2) hs
      obtain⟨s,cs⟩:=q;simp only [hs,AC]at i;subst i;refine⟨rfl,?_,?_,λ_=>⟨rfl,t,s,m,cs,y,z,h2,rfl,λlv2 K e=>by simp only [O lv2,h3 lv2 e]⟩,?_,?_,?_⟩<;>intro hc<;>simp at hc
     |none=>
      simp only [hs]at i
      cases hr:dR E o (bC E j) h with
      |some v=>
       simp only [hr,AC]at i;subst i;have u:=λlv2=>pH (E:=E) (f:=f) (o:=o) (ev:=bC E j) (h:=h) (.inl (by simp [hr])) lv2
       refine⟨rfl,?_,?_,?_,λ_=>⟨rfl,rfl,λlv2=>by simp only [(u lv2).1,(u lv2).2,hr]⟩,?_,?_⟩<;>intro hc<;>simp at hc
      |none=>
       simp only [hr]at i
       cases hee:iM E f o (bC E j) h with
       |some q=>
        obtain⟨v,h'⟩:=q;simp only [hee,AC]at i;subst i;have u:=λlv2=>pH (E:=E) (f:=f) (o:=o) (ev:=bC E j) (h:=h) (.inr (.inl (by simp [hee]))) lv2
        refine⟨rfl,?_,?_,?_,?_,λ_=>⟨rfl,λlv2=>by simp only [(u lv2).1,(u lv2).2,hr,hee]⟩,?_⟩<;>intro hc<;>simp at hc
       |none=>
        simp only [hee]at i
        cases hcl:dI o (bC E j)with
        |none=>simp [hcl]at i
        |some q=>
         obtain⟨g,xs⟩:=q;simp only [hcl]at i;split at i
         case h_2=>simp at i
         rename_i v h' D;simp only [AC]at i
         cases hiso:E.iso g with
         |true=>
          simp only [hiso,rL]at i;subst i;obtain⟨rfl,A⟩:=G g hiso _ _ _ _ D;have u:=λlv2=>pH (E:=E) (f:=f) (o:=o) (ev:=bC E j) (h:=h') (.inr (.inr (by simp [hcl]))) lv2
          have T:=b2H (E:=E) (f:=f) (o:=o) (ev:=bC E j) (h:=h') (.inr (by simp [hcl]));have L:=b0V (E:=E) (f:=f) (o:=o) (ev:=bC E j) (by simp [hcl]);refine⟨rfl,λ_=>⟨rfl,rfl,λlv2 h2=>by simp only [(u lv2).1,(u lv2).2,T h2,L h2,hcl,A h2,hiso,rL]⟩,?_,?_,?_,?_,?_⟩<;>intro hc<;>simp at hc
         |false=>
         simp only [hiso,rL]at i;subst i;have u:=λlv2=>pH (E:=E) (f:=f) (o:=o) (ev:=bC E j) (h:=h) (.inr (.inr (by simp [hcl]))) lv2
         refine⟨rfl,?_,?_,?_,?_,λ_=>⟨rfl,λlv2=>by simp only [(u lv2).1,(u lv2).2,hr,hee,hcl,D,hiso,rL]⟩,?_⟩<;>intro hc<;>simp at hc
def vT(F:FF):Prop:= ∀k s off,F.tm k=some (.l s off)-> ∃cs,F.lv s=some cs
theorem Al{o:Oper}{i g:Nat->Option TV}(h: ∀t∈o.looksAt ops.toArray,i t=g t):dK ops i o=dK ops g o:=by
 unfold dK
 cases hg:o.guard with
 |none=>rfl
 |some q=>
  obtain⟨j,b⟩:=q;simp only
  cases hd:(ops[j]?).bind (·.dst)with
  |none=>rfl
  |some d=>
   have:d∈o.looksAt ops.toArray:=by
    simp only [Oper.looksAt,hg,ED,hd];simp
   simp only [h d this]
theorem mN{o:Oper}{j i:Nat->Option TV}(h: ∀t∈o.looksAt ops.toArray,j t=i t): ∀x∈o.op.operands,bC E j x=bC E i x:=by
 intro x l
 cases x with
 |tmp t=>
  simp only [bC];refine h t ?_;simp only [Oper.looksAt,BZ,GD];exact .inl ⟨.tmp t,by simpa using l,rfl⟩
 |const v=>rfl
 |global g=>rfl
 |func g=>rfl
theorem b7F{draw:Bool}{o:Oper}{l i:Nat->Option TV}{lv:Nat->Option (Y14)}{h:Heap}(j: ∀t∈o.looksAt ops.toArray,l t=i t):C4 E f cf ops draw o l lv h=C4 E f cf ops draw o i lv h:=by
 have g:=mN (E:=E) j;simp only [C4,Al j,eJ,b2D (E:=E) (f:=f) g,b1J (E:=E) (lv:=lv) (lv':=lv) g (λ_=>rfl),b2T (E:=E) (lv:=lv) (lv':=lv) g (λ_=>rfl),X3 (E:=E) (h:=h) g,b0U (E:=E) (f:=f) (h:=h) g,Qj g]
theorem FF.ext'{F G:FF}(h1: ∀k,F.tm k=G.tm k)(h2: ∀k,F.lv k=G.lv k):F=G:=by
 obtain⟨a,b⟩:=F;obtain⟨c,d⟩:=G;have g:a=c:=funext h1;have i:b=d:=funext h2;subst g;subst i;rfl
theorem fZ{F:FF}{d:Option Tmp}{e:Ef}(g:e.box=false)(k:Nat):(F.app d e).tm k=if d=some k then e.v else F.tm k:=by
 unfold FF.app
 cases e.loc with
 |none=>
  cases d with
  |none=>simp [FF.put]
  |some t=>
   simp only [FF.put,AC]
   by_cases h:k=t
   .simp [h]
   .simp [h,show¬t=k from λe=>h e.symm]
 |some q=>
  simp only [g,BA,if_false,FF.lset]
  cases d with
  |none=>simp [FF.put]
  |some t=>
   simp only [FF.put,AC]
   by_cases h:k=t
   .simp [h]
   .simp [h,show¬t=k from λe=>h e.symm]
theorem jN{F:FF}{d:Option Tmp}{e:Ef}(g:e.box=false)(k:Nat):(F.app d e).lv k=match e.loc with|some (s,cs)=>if k=s then some cs else F.lv k|none=>F.lv k:=by
 unfold FF.app
 cases hl:e.loc with
 |none=>cases d<;>rfl
 |some q=>
  simp only [g,BA,if_false,FF.lset]
  cases d<;>rfl
theorem vT.app(r:vH E cf){o:Oper}{F:FF}{h:Heap}{e:Ef}(A:vT F)(i:C4 E f cf ops true o F.tm F.lv h=some e):vT (F.app o.dst e):=by
 have D:=(Mw r i).1;have m: ∀s,(∃cs,F.lv s=some cs)-> ∃cs,(F.app o.dst e).lv s=some cs:=by
  rintro s ⟨cs,u⟩;rw [jN D]
  cases e.loc with
  |none=>exact⟨cs,u⟩
  |some q=>
   obtain⟨L,cs'⟩:=q;simp only
   by_cases hk:s=L
   .exact⟨cs',by rw [if_pos hk]⟩
   .exact⟨cs,by rw [if_neg hk];exact u⟩
 intro k s z hk;rw [fZ D]at hk;split at hk
 case isFalse=>exact m s (A k s z hk)
 rename_i hd;unfold C4 at i
 cases hw:dK ops F.tm o with
 |none=>simp [hw]at i
 |some b=>
  simp only [hw]at i
  cases b with
  |false=>simp only [AC]at i;subst i;simp at hk
  |true=>
   simp only at i;unfold eJ at i
   cases hp:eQ E f o (bC E F.tm)with
   |some q=>
    obtain⟨v,bx⟩:=q;simp only [hp]at i
    cases bx with
    |none=>
     simp only [AC]at i;subst i;simp only [AC]at hk;subst hk;obtain⟨x,K,l⟩:=c2V hp
     cases x with
     |tmp t=>exact m s (A t s K l)
     |const c=>simp only [bC]at l;obtain⟨y,_,h2⟩:=AD.1 l;cases h2
     |global g=>simp only [bC]at l;obtain⟨y,_,h2⟩:=AD.1 l;cases h2
     |func g=>simp [bC]at l
    |some cs=>
     simp only [hd,if_true]at i;split at i
     case h_2=>cases i
     rename_i m;simp only [AC]at i;subst i;simp only [AC]at hk;subst hk;obtain rfl:=c2U hp hd;refine⟨cs,?_⟩;rw [jN rfl];simp
   |none=>
    simp only [hp]at i;exfalso;have G: ∀tv,e.v=some tv-> ∃x,tv= .v x:=by
     intro tv j
     cases hl:gI E o (bC E F.tm) F.lv with
     |some v=>
      simp only [hl,AC]at i;subst i;simp only [AC]at j;subst j;unfold gI at hl
      repeat' split at hl
      all_goals first| (cases hl;done)| (obtain⟨y,_,h2⟩:=AD.1 hl;exact⟨y,h2.symm⟩)
     |none=>
     simp only [hl]at i
     cases u:iX E o (bC E F.tm) F.lv with
     |some v=>simp only [u,AC]at i;subst i;cases j
     |none=>
     simp only [u]at i
     cases hr:dR E o (bC E F.tm) h with
     |some v=>
      simp only [hr,AC]at i;subst i;simp only [AC]at j;subst j;exact c3D hr
     |none=>
     simp only [hr]at i
     cases hee:iM E f o (bC E F.tm) h with
     |some q=>
      simp only [hee,AC]at i;subst i;exact d9E hee j
     |none=>
     simp only [hee]at i;split at i
     .split at i
      .simp only [AC]at i;subst i;simp only [AC]at j;exact⟨_,j.symm⟩
      .cases i
     .cases i
    obtain⟨x,l⟩:=G _ hk
    cases l
theorem b0Y{draw:Bool}{o:Oper}{i:Nat->Option TV}{lv:Nat->Option (Y14)}{h:Heap}{e:Ef}(g:C4 E f cf ops draw o i lv h=some e):e.c≠ .a:=by
 unfold C4 at g;split at g
 .cases g
 .simp only [AC]at g;subst g;simp
 .unfold eJ at g
  repeat' split at g
  all_goals first
   | (cases g;done)
   | (simp only [AC]at g;subst g;first| (simp;done)| (simp only [rL];split<;>simp))
theorem V0{draw:Bool}{n:Nat}{o:Oper}{j:Nat->Option TV}{lv:Nat->Option (Y14)}{h:Heap}{e:Ef}(g:dJ E f cf ops draw (some n) o j lv h=some e):
  e=⟨.p,some .u,none,false,h⟩ \/ (∃v,Bl E f o (bC E j) n=some (v,none)/\e=⟨.p,v,none,false,h⟩) \/ ∃v x,Bl E f o (bC E j) n=some (v,some x)/\h.get n= .free/\e=⟨.a,v,none,false,h.set n x⟩:=by
 unfold dJ at g;simp only at g;split at g
 .cases g
 .simp only [AC]at g;exact .inl g.symm
 .split at g
  .rename_i v i;simp only [AC]at g;exact .inr (.inl ⟨v,i,g.symm⟩)
  .rename_i v x i;split at g
   .rename_i hf;simp only [AC]at g;exact .inr (.inr ⟨v,x,i,hf,g.symm⟩)
   .cases g
  .cases g
theorem yZ{draw:Bool}{rs:Y10}{o:Oper}{j g:Nat->Option TV}{lv:Nat->Option (Y14)}{h:Heap}(i: ∀t∈o.looksAt ops.toArray,j t=g t):dJ E f cf ops draw rs o j lv h=dJ E f cf ops draw rs o g lv h:=by
 unfold dJ
 rw [b7F i,Al i]
 cases rs with
 |none=>rfl
 |some n=>simp only [b4I (mN (E:=E) i)]
theorem Dk{o:Oper}{i:Nat->Option TV}{lv:Nat->Option (Y14)}{h h2:Heap}{e:Ef}(g:C4 E f cf ops true o i lv h=some e)(j:e.c= .r):
  ∃v,dR E o (bC E i) h=some v/\e.v=some v/\(dR E o (bC E i) h2=some v-> ∀lv2,C4 E f cf ops true o i lv2 h2=some {e with h:=h2 }):=by
 unfold C4 at g⊢
 cases hw:dK ops i o with
 |none=>simp [hw]at g
 |some b=>
  cases b with
  |false=>
   simp only [hw,AC]at g;subst g;simp at j
  |true=>
   simp only [hw]at g⊢;unfold eJ at g⊢
   cases hp:eQ E f o (bC E i)with
   |some q=>
    obtain⟨l,bx⟩:=q;exfalso;simp only [hp]at g
    repeat' split at g
    all_goals first| (cases g;done)| (simp only [AC]at g;subst g;cases j)
   |none=>
    simp only [hp]at g⊢
    cases hl:gI E o (bC E i) lv with
    |some l=>
     simp only [hl,AC]at g;subst g
     cases j
    |none=>
     simp only [hl]at g⊢
     cases hs:iX E o (bC E i) lv with
     |some q=>
      obtain⟨y,z⟩:=q;simp only [hs,AC]at g;subst g
      cases j
     |none=>
      simp only [hs]at g⊢
      cases hr1:dR E o (bC E i) h with
      |some l=>
       simp only [hr1,AC]at g;subst g;refine⟨l,rfl,rfl,λu lv2=>?_⟩;have m:=pH (E:=E) (f:=f) (o:=o) (ev:=bC E i) (h:=h) (.inl (by simp [hr1])) lv2;simp only [m.1,m.2,u]
      |none=>
       exfalso;simp only [hr1]at g
       repeat' split at g
       all_goals first| (cases g;done)| (simp only [AC]at g;subst g;first| (cases j;done)| (simp only at j;unfold rL at j;split at j<;>cases j))
theorem lG(h:Heap)(i:Y10):pO h h i:=by cases i<;>simp [pO]
theorem fK(m:vH E cf){rs:Y10}{o:Oper}{i:Nat->Option TV}{lv:Nat->Option (Y14)}{h:Heap}{e:Ef}(g:dJ E f cf ops true rs o i lv h=some e):
  e.box=false/\
  (e.c= .p->e.loc=none/\e.h=h/\∀lv2 h2,dJ E f cf ops true rs o i lv2 h2=some {e with h:=h2 })/\
  (e.c= .l->e.loc=none/\e.h=h/\∃t s off,t∈o.looksAt ops.toArray/\i t=some (.l s off)/\(∃cs,lv s=some cs)/\∀lv2 h2,lv2 s=lv s->dJ E f cf ops true rs o i lv2 h2=some {e with h:=h2 })/\
  (e.c= .s->e.h=h/\∃t s off cs,t∈o.looksAt ops.toArray/\i t=some (.l s off)/\(∃cs,lv s=some cs)/\e.loc=some (s,cs)/\∀lv2 h2,lv2 s=lv s->dJ E f cf ops true rs o i lv2 h2=some {e with h:=h2 })/\
  (e.c= .r->e.loc=none/\e.h=h/\(∀lv2 h2,pO h h2 (mL o (bC E i))->dJ E f cf ops true rs o i lv2 h2=some {e with h:=h2 })/\∀id,mL o (bC E i)=some id->h.get id≠ .free)/\
  (e.c= .e->e.loc=none/\∀lv2,dJ E f cf ops true rs o i lv2 h=some e)/\
  (e.c= .b->e.h=h/\∃d cs,o.dst=some d/\e.loc=some (d,cs)/\lv d=none/\∀lv2 h2,lv2 d=none->dJ E f cf ops true rs o i lv2 h2=some {e with h:=h2 })/\
  (e.c= .a->e.loc=none/\∃n x,rs=some n/\h.get n= .free/\x≠ .free/\e.h=h.set n x/\∀lv2 h2,h2.get n= .free->dJ E f cf ops true rs o i lv2 h2=some {e with h:=h2.set n x }):=by
 cases rs with
 |none=>
  simp only [dJ]at g⊢;have y:=b0Y g;obtain⟨b,p,l,s,r,e',x⟩:=Mw m g;refine⟨b,p,l,s,λj=>⟨(r j).1,(r j).2.1,λlv2 h2 D=>?_,λid u=>?_⟩,e',x,λj=>absurd j y⟩
  .obtain⟨v,z,G,A⟩:=Dk (h2:=h2) g j;exact A (X4 z D) lv2
  .obtain⟨v,z,G,A⟩:=Dk (h2:=h) g j;exact b2G z u
 |some n=>
  unfold dJ at g
  cases hw:dK ops i o with
  |none=>simp [hw]at g
  |some b=>
   simp only [hw]at g
   cases b with
   |false=>
    simp only [AC]at g;subst g;refine⟨rfl,λ_=>⟨rfl,rfl,λlv2 h2=>by simp [dJ,hw]⟩,?_,?_,?_,?_,?_,?_⟩<;>intro j<;>simp at j
   |true=>
    simp only at g
    cases ha:Bl E f o (bC E i) n with
    |none=>simp [ha]at g
    |some q=>
     obtain⟨v,x⟩:=q;simp only [ha]at g
     cases x with
     |none=>
      simp only [AC]at g;subst g;refine⟨rfl,λ_=>⟨rfl,rfl,λlv2 h2=>by simp [dJ,hw,ha]⟩,?_,?_,?_,?_,?_,?_⟩<;>intro j<;>simp at j
     |some x=>
      simp only at g;split at g
      case h_2=>cases g
      rename_i hf;simp only [AC]at g;subst g;refine⟨rfl,?_,?_,?_,?_,?_,?_,λ_=>⟨rfl,n,x,rfl,hf,b4J ha,rfl,λlv2 h2 h0=>by simp [dJ,hw,ha,h0]⟩⟩<;>intro j<;>simp at j
theorem vT.appA(i:vH E cf){rs:Y10}{o:Oper}{F:FF}{h:Heap}{e:Ef}(m:vT F)(r:dJ E f cf ops true rs o F.tm F.lv h=some e):vT (F.app o.dst e):=by
 cases rs with
 |none=>exact m.app i r
 |some n=>
  have g:e.loc=none/\e.box=false/\∀tv,e.v=some tv->(∃x,tv= .v x) \/tv= .u:=by
   rcases V0 r with rfl| ⟨v,j,rfl⟩| ⟨v,x,j,_,rfl⟩
   .exact⟨rfl,rfl,λtv e=>by simp at e;exact .inr e.symm⟩
   .exact⟨rfl,rfl,λtv e=> .inl (d4B j e)⟩
   .exact⟨rfl,rfl,λtv e=> .inl (d4B j e)⟩
  intro k s l hk;rw [fZ g.2.1]at hk;rw [jN g.2.1,g.1];split at hk
  .rcases g.2.2 _ hk with⟨x,hx⟩|hx<;>cases hx
  .exact m k s l hk
theorem f6W(T:vH E cf){ra ri:Y10}{a i:Oper}{F:FF}{h:Heap}{u K:Ef}(hA:vT F)(b1:Oper.apart ops.toArray a i=true)(ha:dJ E f cf ops true ra a F.tm F.lv h=some u)
  (hi:dJ E f cf ops true ri i (F.app a.dst u).tm (F.app a.dst u).lv u.h=some K) (hcl:lA u.c K.c=false)
  (hra:u.c= .a->K.c= .r-> ∀n id,ra=some n->mL i (bC E F.tm)=some id->n≠id):
  ∃g y,dJ E f cf ops true ri i F.tm F.lv h=some g/\dJ E f cf ops true ra a (F.app i.dst g).tm (F.app i.dst g).lv g.h=some y/\g.c=K.c/\y.c=u.c/\
   (F.app i.dst g).app a.dst y=(F.app a.dst u).app i.dst K/\y.h=K.h/\y.v=u.v:=by
 obtain⟨s1,s2,s3⟩:=Oper.apart_spec b1;obtain⟨ab,ap,al,Z,ar,ae,ax,aa⟩:=fK T ha;have b2:dJ E f cf ops true ri i (F.app a.dst u).tm (F.app a.dst u).lv u.h=dJ E f cf ops true ri i F.tm (F.app a.dst u).lv u.h:=by
  refine yZ (λt ht=>?_);rw [fZ ab];rw [if_neg (λe=>s1 t e ht)]
 rw [b2]at hi;obtain⟨ib,ip,il,c1,ir,ie,ix,ia⟩:=fK T hi;have c3:u.loc=none->(F.app a.dst u).lv=F.lv:=λe=>funext λk=>by rw [jN ab,e]
 have X:u.loc=none\/ ∃s cs,u.loc=some (s,cs)/\((u.c= .s/\∃c0,F.lv s=some c0) \/ (u.c= .b/\a.dst=some s/\F.lv s=none)):=by
  cases hc:u.c with
  |p=>exact .inl (ap hc).1
  |l=>exact .inl (al hc).1
  |r=>exact .inl (ar hc).1
  |e=>exact .inl (ae hc).1
  |a=>exact .inl (aa hc).1
  |s=>
   obtain⟨_,t,s,G,cs,_,_,h1,h2,_⟩:=Z hc;exact .inr ⟨s,cs,h2,.inl ⟨rfl,h1⟩⟩
  |b=>
   obtain⟨_,d,cs,h1,h2,h3,_⟩:=ax hc;exact .inr ⟨d,cs,h2,.inr ⟨rfl,h1,h3⟩⟩
 have a1: ∀k,(F.app a.dst u).lv k=match u.loc with|some (s,cs)=>if k=s then some cs else F.lv k|none=>F.lv k:=λk=>jN ab k
 have a6: ∀s,(∃cs,F.lv s=some cs)->lA u.c .s=false->(F.app a.dst u).lv s=F.lv s:=by
  rintro s ⟨cs,hs⟩ a2;rw [a1];rcases X with D| ⟨s',cs',D,hk|hk⟩
  .rw [D]
  .rw [hk.1]at a2;simp [lA]at a2
  .rw [D];simp only;rw [if_neg];rintro rfl;rw [hk.2.2]at hs;cases hs
 have b0: ∀t s G,t∈i.looksAt ops.toArray->F.tm t=some (.l s G)-> ∃cs,F.lv s=some cs:=λt s G _ e=>hA t s G e
 obtain⟨g,e1,e2,e3,e4,e5⟩: ∃g,dJ E f cf ops true ri i F.tm F.lv h=some g/\g.c=K.c/\g.v=K.v/\g.loc=K.loc/\((K.c= .e/\g.h=K.h/\u.h=h) \/ ((K.c≠ .e/\K.c≠ .a)/\g.h=h/\K.h=u.h) \/ (K.c= .a/\∃n x,x≠ .free/\h.get n= .free/\u.h.get n= .free/\g.h=h.set n x/\K.h=u.h.set n x)):=by
  cases hc:K.c with
  |p=>
   obtain⟨p1,A,z⟩:=ip hc;exact⟨_,z F.lv h,hc,rfl,rfl,.inr (.inl ⟨KB,rfl,A⟩)⟩
  |l=>
   obtain⟨p1,A,t,s,G,m,j,Y,z⟩:=il hc;have hk:(F.app a.dst u).lv s=F.lv s:=by
    rw [a1];rcases X with D| ⟨s',cs',D,hk|hk⟩
    .rw [D]
    .rw [hk.1,hc]at hcl;simp [lA]at hcl
    .rw [D];simp only;rw [if_neg];rintro rfl;obtain⟨c0,h0⟩:=b0 t _ G m j;rw [hk.2.2]at h0;cases h0
   exact⟨_,z F.lv h hk.symm,hc,rfl,rfl,.inr (.inl ⟨KB,rfl,A⟩)⟩
  |s=>
   obtain⟨A,t,s,G,cs,m,j,Y,q4,z⟩:=c1 hc;have hk:(F.app a.dst u).lv s=F.lv s:=a6 s (b0 t s G m j) (by rw [hc]at hcl;exact hcl);exact⟨_,z F.lv h hk.symm,hc,rfl,rfl,.inr (.inl ⟨KB,rfl,A⟩)⟩
  |b=>
   obtain⟨A,d,cs,m,j,Y,z⟩:=ix hc;have hk:F.lv d=none:=by
    rw [a1]at Y;rcases X with D| ⟨s',cs',D,hk⟩
    .rw [D]at Y;exact Y
    .rw [D]at Y;simp only at Y;split at Y
     .cases Y
     .exact Y
   exact⟨_,z F.lv h hk,hc,rfl,rfl,.inr (.inl ⟨KB,rfl,A⟩)⟩
  |r=>
   obtain⟨p1,A,z,p4⟩:=ir hc;have b3:pO u.h h (mL i (bC E F.tm)):=by
    cases hca:u.c with
    |p=>rw [(ap hca).2.1];exact lG _ _
    |l=>rw [(al hca).2.1];exact lG _ _
    |s=>rw [(Z hca).1];exact lG _ _
    |b=>rw [(ax hca).1];exact lG _ _
    |r=>rw [(ar hca).2.1];exact lG _ _
    |e=>rw [hca,hc]at hcl;simp [lA]at hcl
    |a=>
     obtain⟨_,n,x,m,j,Y,q4,_⟩:=aa hca
     cases hid:mL i (bC E F.tm)with
     |none=>trivial
     |some id=>
      have:=hra hca hc n id m hid;show h.get id=u.h.get id;rw [q4,Heap.get_set,if_neg (λe=>this e.symm)]
   exact⟨_,z F.lv h b3,hc,rfl,rfl,.inr (.inl ⟨KB,rfl,A⟩)⟩
  |a=>
   obtain⟨p1,n,x,m,j,Y,q4,z⟩:=ia hc;have hf:h.get n= .free:=by
    cases hca:u.c with
    |p=>rw [(ap hca).2.1]at j;exact j
    |l=>rw [(al hca).2.1]at j;exact j
    |s=>rw [(Z hca).1]at j;exact j
    |b=>rw [(ax hca).1]at j;exact j
    |r=>rw [(ar hca).2.1]at j;exact j
    |e=>rw [hca,hc]at hcl;simp [lA]at hcl
    |a=>
     obtain⟨_,n',x',_,_,r3,r4,_⟩:=aa hca;rw [r4,Heap.get_set]at j;split at j
     .exact absurd j r3
     .exact j
   exact⟨_,z F.lv h hf,hc,rfl,rfl,.inr (.inr ⟨rfl,n,x,Y,hf,j,rfl,q4⟩)⟩
  |e=>
   obtain⟨p1,z⟩:=ie hc;have hh:u.h=h:=by
    cases hca:u.c with
    |p=>exact(ap hca).2.1
    |l=>exact(al hca).2.1
    |s=>exact(Z hca).1
    |b=>exact(ax hca).1
    |r=>rw [hca,hc]at hcl;simp [lA]at hcl
    |e=>rw [hca,hc]at hcl;simp [lA]at hcl
    |a=>rw [hca,hc]at hcl;simp [lA]at hcl
   have:=z F.lv;rw [hh]at this;exact⟨_,this,hc,rfl,rfl,.inl ⟨rfl,rfl,hh⟩⟩
 obtain⟨a4,b7,b6,b9,b8,b5,c2,b4⟩:=fK T e1;have a9:dJ E f cf ops true ra a (F.app i.dst g).tm (F.app i.dst g).lv g.h=dJ E f cf ops true ra a F.tm (F.app i.dst g).lv g.h:=by
  refine yZ (λt ht=>?_);rw [fZ a4];rw [if_neg (λe=>s3 t e ht)]
 have R:g.loc=none\/ ∃s cs,g.loc=some (s,cs)/\((g.c= .s/\∃c0,F.lv s=some c0) \/ (g.c= .b/\i.dst=some s/\F.lv s=none)):=by
  cases hc:g.c with
  |p=>exact .inl (b7 hc).1
  |l=>exact .inl (b6 hc).1
  |r=>exact .inl (b8 hc).1
  |e=>exact .inl (b5 hc).1
  |a=>exact .inl (b4 hc).1
  |s=>
   obtain⟨_,t,s,G,cs,_,_,h1,h2,_⟩:=b9 hc;exact .inr ⟨s,cs,h2,.inl ⟨rfl,h1⟩⟩
  |b=>
   obtain⟨_,d,cs,h1,h2,h3,_⟩:=c2 hc;exact .inr ⟨d,cs,h2,.inr ⟨rfl,h1,h3⟩⟩
 have a5: ∀k,(F.app i.dst g).lv k=match g.loc with|some (s,cs)=>if k=s then some cs else F.lv k|none=>F.lv k:=λk=>jN a4 k
 have L:lA u.c g.c=false:=by rw [e2];exact hcl
 have V: ∀s,(∃cs,F.lv s=some cs)->g.c≠ .s->(F.app i.dst g).lv s=F.lv s:=by
  rintro s ⟨cs,hs⟩ a2;rw [a5];rcases R with D| ⟨s',cs',D,hk|hk⟩
  .rw [D]
  .exact absurd hk.1 a2
  .rw [D];simp only;rw [if_neg];rintro rfl;rw [hk.2.2]at hs;cases hs
 obtain⟨y,g1,g2,g3,g4,g5⟩: ∃y,dJ E f cf ops true ra a F.tm (F.app i.dst g).lv g.h=some y/\y.c=u.c/\y.v=u.v/\y.loc=u.loc/\y.h=K.h:=by
  cases hc:u.c with
  |p=>
   obtain⟨p1,A,z⟩:=ap hc;refine⟨_,z _ _,hc,rfl,rfl,?_⟩;rcases e5 with⟨_,m,_⟩| ⟨_,m,j⟩| ⟨_,n,x,_,_,_,m,j⟩
   .exact m
   .show g.h=_;rw [m,j,A]
   .show g.h=_;rw [m,j,A]
  |l=>
   obtain⟨p1,A,t,s,G,t1,t2,t3,z⟩:=al hc;refine⟨_,z _ _ (V s t3 (λe=>by rw [hc,e]at L;simp [lA]at L)),hc,rfl,rfl,?_⟩;rcases e5 with⟨_,m,_⟩| ⟨_,m,j⟩| ⟨_,n,x,_,_,_,m,j⟩
   .exact m
   .show g.h=_;rw [m,j,A]
   .show g.h=_;rw [m,j,A]
  |s=>
   obtain⟨A,t,s,G,cs,t1,t2,t3,t4,z⟩:=Z hc;refine⟨_,z _ _ (V s t3 (λe=>by rw [hc,e]at L;simp [lA]at L)),hc,rfl,rfl,?_⟩;rcases e5 with⟨_,m,_⟩| ⟨_,m,j⟩| ⟨_,n,x,_,_,_,m,j⟩
   .exact m
   .show g.h=_;rw [m,j,A]
   .show g.h=_;rw [m,j,A]
  |b=>
   obtain⟨A,d,cs,t1,t2,t3,z⟩:=ax hc;have hk:(F.app i.dst g).lv d=none:=by
    rw [a5];rcases R with D| ⟨s',cs',D,hk|hk⟩
    .rw [D];exact t3
    .rw [D];simp only;rw [if_neg]
     .exact t3
     .rintro rfl;obtain⟨c0,a8⟩:=hk.2;rw [t3]at a8;cases a8
    .rw [D];simp only;rw [if_neg]
     .exact t3
     .rintro rfl;exact s2 _ t1 hk.2.1
   refine⟨_,z _ _ hk,hc,rfl,rfl,?_⟩;rcases e5 with⟨_,m,_⟩| ⟨_,m,j⟩| ⟨_,n,x,_,_,_,m,j⟩
   .exact m
   .show g.h=_;rw [m,j,A]
   .show g.h=_;rw [m,j,A]
  |r=>
   obtain⟨p1,A,z,p4⟩:=ar hc;rcases e5 with⟨q0,m,_⟩| ⟨_,m,j⟩| ⟨_,n,x,_,q5,_,m,j⟩
   .rw [hc,q0]at hcl;simp [lA]at hcl
   .rw [m];exact⟨_,z _ h (lG _ _),hc,rfl,rfl,by show h=K.h;rw [j,A]⟩
   .rw [m];refine⟨_,z _ _ ?_,hc,rfl,rfl,by show h.set n x=K.h;rw [j,A]⟩
    cases hid:mL a (bC E F.tm)with
    |none=>trivial
    |some id=>
     have:=p4 id hid;show(h.set n x).get id=h.get id;rw [Heap.get_set,if_neg (λe=>this (by rw [e];exact q5))]
  |e=>
   obtain⟨p1,z⟩:=ae hc;rcases e5 with⟨q0,m,_⟩| ⟨_,m,j⟩| ⟨q0,_⟩
   .rw [hc,q0]at hcl;simp [lA]at hcl
   .rw [m];exact⟨_,z _,hc,rfl,rfl,j.symm⟩
   .rw [hc,q0]at hcl;simp [lA]at hcl
  |a=>
   obtain⟨p1,n',x',A,z,p4,p5,p6⟩:=aa hc;rcases e5 with⟨q0,m,_⟩| ⟨_,m,j⟩| ⟨_,n,x,q4,q5,q6,m,j⟩
   .rw [hc,q0]at hcl;simp [lA]at hcl
   .rw [m];exact⟨_,p6 _ h z,hc,rfl,rfl,by show h.set n' x'=K.h;rw [j,p5]⟩
   .have a3:n'≠n:=by
     rintro rfl;rw [p5,Heap.get_set,if_pos rfl]at q6;exact p4 q6
    rw [m];refine⟨_,p6 _ (h.set n x) (by rw [Heap.get_set,if_neg a3];exact z),hc,rfl,rfl,?_⟩;show(h.set n x).set n' x'=K.h;rw [j,p5,Heap.set_comm _ _ _ a3]
 rw [<-a9]at g1;have a7:y.box=false:=(fK T g1).1;refine⟨g,y,e1,g1,e2,g2,?_,g5,g3⟩;refine FF.ext' (λk=>?_) (λk=>?_)
 .rw [fZ a7,fZ a4,fZ ib,fZ ab,e3,g3]
  by_cases h1:a.dst=some k
  .have h2:i.dst≠some k:=s2 k h1;simp [h1,h2]
  .simp [h1]
 .rw [jN a7,jN a4,jN ib,jN ab,e4,g4];rcases X with D| ⟨s,cs,D,hk⟩
  .rw [D]
  .rcases R with a0| ⟨s',cs',a0,O⟩
   .rw [e4]at a0;rw [a0]
   .rw [e4]at a0;rw [D,a0];simp only;have a3:s≠s':=by
     rintro rfl;rcases hk with hk|hk<;>rcases O with O|O
     .rw [hk.1,O.1]at L;simp [lA]at L
     .obtain⟨c0,h0⟩:=hk.2;rw [O.2.2]at h0;cases h0
     .obtain⟨c0,h0⟩:=O.2;rw [hk.2.2]at h0;cases h0
     .exact s2 _ hk.2.1 O.2.1
    by_cases h1:k=s
    .subst h1;simp [a3]
    .simp [h1]
theorem b0W{rs:Y10}{o:Oper}{i:Nat->Option TV}{lv:Nat->Option (Y14)}{h h2:Heap}{e:Ef}(l:dJ E f cf ops true rs o i lv h=some e)(j:e.c= .r){v:TV}(m:dR E o (bC E i) h2=some v)(g:e.v=some v):
  dJ E f cf ops true rs o i lv h2=some {e with h:=h2 } :=by
 cases rs with
 |none=>
  obtain⟨z,_,u,y⟩:=Dk (h2:=h2) l j;rw [u]at g;simp only [AC]at g;subst g;exact y m lv
 |some n=>
  exfalso;rcases V0 l with rfl| ⟨v,ha,rfl⟩| ⟨v,x,ha,_,rfl⟩<;>cases j
theorem f1O(l:vH E cf){z A:Y10}{a i:Oper}{F:FF}{h:Heap}{j g:Ef}(K:Oper.apart ops.toArray a i=true)(Y:dJ E f cf ops true z a F.tm F.lv h=some j)
  (hi:dJ E f cf ops true A i (F.app a.dst j).tm (F.app a.dst j).lv j.h=some g) (hac:j.c= .r) (hic:g.c= .e) (hsame:dJ E f cf ops true z a F.tm F.lv g.h=some {j with h:=g.h }):
  dJ E f cf ops true A i F.tm F.lv h=some g/\dJ E f cf ops true z a (F.app i.dst g).tm (F.app i.dst g).lv g.h=some {j with h:=g.h } /\
   (F.app i.dst g).app a.dst {j with h:=g.h } =(F.app a.dst j).app i.dst g:=by
 obtain⟨s1,s2,s3⟩:=Oper.apart_spec K;obtain⟨m,ap,al,X,ar,ae,ax,aa⟩:=fK l Y;obtain⟨D,G,_,_⟩:=ar hac;have R:(F.app a.dst j).lv=F.lv:=funext λk=>by rw [jN m,D]
 have O:dJ E f cf ops true A i (F.app a.dst j).tm (F.app a.dst j).lv j.h=dJ E f cf ops true A i F.tm (F.app a.dst j).lv j.h:=by
  refine yZ (λt V=>?_);rw [fZ m];rw [if_neg (λe=>s1 t e V)]
 rw [O,R,G]at hi;obtain⟨u,ip,il,a0,ir,Z,ix,ia⟩:=fK l hi;obtain⟨y,_⟩:=Z hic;have T:(F.app i.dst g).lv=F.lv:=funext λk=>by rw [jN u,y]
 have L:dJ E f cf ops true z a (F.app i.dst g).tm (F.app i.dst g).lv g.h=dJ E f cf ops true z a F.tm (F.app i.dst g).lv g.h:=by
  refine yZ (λt V=>?_);rw [fZ u];rw [if_neg (λe=>s3 t e V)]
 refine⟨hi,by rw [L,T];exact hsame,FF.ext' (λk=>?_) (λk=>?_)⟩
 .rw [fZ (e:= {j with h:=g.h }) m,fZ u,fZ u,fZ m]
  by_cases h1:a.dst=some k
  .have h2:i.dst≠some k:=s2 k h1;simp [h1,h2]
  .simp [h1]
 .rw [jN (e:= {j with h:=g.h }) m,jN u,jN u,jN m,y]
end
structure FR(M:Meta)(h:Heap)(w:World)(B n:Nat)(F:FF)(a:Act)(pb:Nat->Nat):Prop where
 size:n<=a.tmps.size
 tm: ∀t tv,F.tm t=some tv->TR M pb tv (a.tmps.getD t undef)
 loc: ∀s cs,F.lv s=some cs->B<=pb s/\¬Wr M h (pb s)/\(∀o,M.im (pb s) o=none)/\∃rc el fz,w.heap[pb s]?=some (.cells rc el fz)/\(∀i,i<rc.size->w.frozen? ⟨pb s,i,none⟩=false)/\eP M cs rc.toList
 one: ∀s s' cs cs',F.lv s=some cs->F.lv s'=some cs'->pb s=pb s'->s=s'
 addr: ∀k s off,F.tm k=some (.l s off)-> ∃cs,F.lv s=some cs
def Ue(E:Env)(M:Meta):Prop:= ∀g cs,E.G g=some cs->VR M.pure (.vref cs 0) (.pointer (some ⟨g,0,none⟩))
theorem Ext.pures{M M':Meta}(j:Ext M M'):Ext M.pure M'.pure:=⟨AF _,λ_ _ e=>(by cases e),j.im,j.bsz,λi g=>absurd g (DN i),λi g=>absurd g (DN i)⟩
theorem Ext.pure(M:Meta):Ext M.pure M:=⟨AR _,λ_ _ e=>(by cases e),λ_ _ _ e=>e,λ_ _ e=>e,λi g=>absurd g (DN i),λi g=>absurd g (DN i)⟩
theorem Ue.mono{E:Env}{M M':Meta}(i:Ext M M')(h:Ue E M):Ue E M':=λg cs e=>(h g cs e).mono i.pures
def Uf(E:Env)(cf:FuncId->Y14->Heap->Option (IV×Heap)):Prop:=
 ∀ g xs h v h', cf g xs h = some (v, h') → (∃ fn, E.P.funcs[g]? = some fn ∧ fn.body.isNone = false ∧ (fn.name == "runtime.NumGoroutine") = false) ∧ ∀ M w rs, Inv M h w → Ue E M → cU M xs rs →
  Calls E.P g rs.toArray w λe w'=> ∃r M',e= .returned r/\VR M' v r/\Inv M' h' w'/\Pres w.heap.size M h w M' h' w'
section
variable {E:Env} {M M':Meta} {h h':Heap} {w w':World} {B n:Nat} {F:FF} {a:Act} {pb:Nat->Nat}
theorem TR.mono(i:Ext M M'){tv:TV}{r:Value}(g:TR M pb tv r):TR M' pb tv r:=by
 cases tv with
 |v x=>exact VR.mono i g
 |l s off=>exact g
 |u=>exact g
theorem a6N(l:Ue E M)(j:FR M h w B n F a pb): ∀x tv,bC E F.tm x=some tv->TR M pb tv (a.eval x):=by
 intro x tv i
 cases x with
 |tmp t=>exact j.tm t tv i
 |const v=>
  simp only [bC]at i;obtain⟨y,h1,h2⟩:=AD.1 i;subst h2;exact(D2 (M:=M) h1).1
 |global g=>
  simp only [bC]at i;obtain⟨y,h1,h2⟩:=AD.1 i;subst h2;exact(l g y h1).mono (Ext.pure M)
 |func g=>
  simp [bC]at i;subst i;exact Gg (cU.nil M) (cU.nil M)
theorem FR.step(g:FR M h w B n F a pb)(j:Pres w.heap.size M h w M' h' w'):FR M' h' w' B n F a pb where
 size:=g.size
 tm:=λt tv e=>(g.tm t tv e).mono j.ext
 loc:=λs cs e=>by
  obtain⟨h1,h2,h3,rc,m,fz,h4,r,u⟩:=g.loc s cs e;obtain⟨l,z,A⟩:=j.keep (pb s) (cQ h4) h2;exact⟨h1,z,λo=>(A o).trans (h3 o),rc,m,fz,l.trans h4,λi y=>(oG l).trans (r i y),u.mono j.ext⟩
 one:=g.one
 addr:=g.addr
theorem Vj(t:Array Value)(d k:Nat)(r:Value)(hd:d<t.size):(t.setIfInBounds d r).getD k undef=if k=d then r else t.getD k undef:=by
 simp only [CX,CW]
 by_cases hk:k=d
 .subst hk;simp [hd]
 .rw [if_neg (λe=>hk e.symm),if_neg hk]
theorem FR.put(i:FR M h w B n F a pb){d:Option Tmp}(hd: ∀t,d=some t->t<n){v:Option TV}{r:Value}(y: ∀tv,v=some tv->TR M pb tv r)(j: ∀s g,v=some (.l s g)-> ∃cs,F.lv s=some cs):FR M h w B n (F.put d v) (a.put d r) pb:=by
 cases d with
 |none=>exact i
 |some t=>
  have u:=hd t rfl;have m:=i.size;refine⟨by simpa [Act.put]using i.size,λk tv e=>?_,i.loc,i.one,λk s g e=>?_⟩
  case refine_2=>
   simp only [FF.put]at e
   by_cases hk:k=t
   .rw [if_pos hk]at e;exact j s g e
   .rw [if_neg hk]at e;exact i.addr k s g e
  simp only [FF.put]at e;simp only [Act.put];rw [Vj _ _ _ _ (AU u m)]
  by_cases hk:k=t
  .rw [if_pos hk]at e⊢;exact y tv e
  .rw [if_neg hk]at e⊢;exact i.tm k tv e
theorem Inv.apart(g:Inv M h w){b:Nat}(j: ¬Wr M h b)(hm: ∀o,M.im b o=none)(hk: ∀k,k≠b->k<w.heap.size->w'.heap[k]?=w.heap[k]?)(m:w.heap.size<=w'.heap.size):Inv M h w' where
 nid:=g.nid
 fresh:=g.fresh
 freshl:=g.freshl
 cells:=λid cs e=>by
  obtain⟨c,rc,h1,h2,h3⟩:=g.cells id cs e;have i:c≠b:=λe'=>j ⟨id,by simp [Wb,e,h1,e']⟩
  exact⟨c,rc,h1,h2.keep (hk c i h2.lt) rfl,h3⟩
 tips:=λid n e=>by
  obtain⟨h0,c,e',rc,h1,h2,h3⟩:=g.tips id n e;have i:c≠b:=λe'=>j ⟨id,by simp [Wb,e,h1,e']⟩
  exact⟨h0,c,e',rc,h1,h2.keep (hk c i h2.lt) rfl,h3⟩
 maps:=λid l e=>by
  obtain⟨c,ents,cl,h1,h2,h3⟩:=g.maps id l e;have i:c≠b:=λe'=>j ⟨id,by simp [Wb,e,h1,e']⟩
  exact⟨c,ents,cl,h1,(hk c i (cQ h2)).trans h2,h3⟩
 im:=λc o v e=>by
  have i:c≠b:=λe'=>by subst e';rw [hm]at e;simp at e
  rw [rJ (hk c i (g.im_lt e))];exact g.im c o v e
 bsz:=λc n e=>by have:=g.bsz c n e;omega
 one:=g.one
 resv:=g.resv
structure Nxt(E:Env)(B n:Nat)(M:Meta)(h:Heap)(w:World)(a:Act)(F':FF)(h':Heap)(a':Act)(w':World)(M':Meta)(pb':Nat->Nat):Prop where
 fr:FR M' h' w' B n F' a' pb'
 inv:Inv M' h' w'
 glob:Ue E M'
 pres:Pres B M h w M' h' w'
 defers:a'.defers=a.defers
theorem Pc{ops:List Oper}{o:Oper}{b:Bool}(z:FR M h w B n F a pb)(g:dK ops F.tm o=some b):Region.wanted o (yielded ops.toArray a.tmps)=b:=by
 unfold dK at g;unfold Region.wanted
 cases hg:o.guard with
 |none=>simp [hg]at g;simp [g]
 |some q=>
  obtain⟨j,c⟩:=q;simp only [hg]at g⊢;split at g
  case h_2=>simp at g
  rename_i d hd;split at g
  case h_3=>simp at g
  case h_2=>
   rename_i m;simp at g;subst g;have i:a.tmps.getD d undef=undef:=z.tm d _ m;have u:yielded ops.toArray a.tmps j=none:=by
    simp only [yielded,ED,hd,Option.bind_some];rw [CX]at i
    cases hq:a.tmps[d]? with
    |none=>rfl
    |some y=>rw [hq]at i;simp at i;subst i;rfl
   rw [u];rfl
  rename_i x m;simp at g;subst g;have i:VR M (.bool x) (a.tmps.getD d undef):=z.tm d _ m;generalize hr:a.tmps.getD d undef=r at i
  cases i
  have l:a.tmps[d]?=some (.bool x):=by
   rw [CX]at hr
   cases hq:a.tmps[d]? with
   |none=>rw [hq]at hr;simp [undef]at hr
   |some y=>rw [hq]at hr;simp at hr;rw [hr]
  have u:yielded ops.toArray a.tmps j=some x:=by
   simp only [yielded,ED,hd,Option.bind_some,l]
  rw [u]
  cases x<;>cases c<;>rfl
theorem e1V{f:FuncId}{cf:FuncId->Y14->Heap->Option (IV×Heap)}{ops:List Oper}{draw:Bool}{o:Oper}{e:Ef}(d4:Uf E cf)(hG:Ue E M)(hI:Inv M h w)(D:FR M h w B n F a pb)(hB:B<=w.heap.size)
  (hd: ∀t,o.dst=some t->t<n) (he:C4 E f cf ops draw o F.tm F.lv h=some e) (Q:Exit->Act->World->Prop) (K:Act->World->Prop)
  (hK: ∀a' w' M' pb',Nxt E B n M h w a (F.app o.dst e) e.h a' w' M' pb'->K a' w'):
  if Region.wanted o (yielded ops.toArray a.tmps)then o.wp E.P a w K Q\/ (o.asks E.P a w/\LetsOut Q)else K (a.put o.dst undef) w:=by
 have hev:=a6N hG D;have A: ∀(d:Option Tmp)(r:Value),(a.put d r).defers=a.defers:=λd r=>by cases d<;>rfl
 unfold C4 at he
 cases hw:dK ops F.tm o with
 |none=>simp [hw]at he
 |some b=>
  rw [Pc D hw];simp only [hw]at he
  cases b with
  |false=>
   simp only [AC]at he;subst he;simp only [BA,if_false];refine hK _ _ M pb ⟨?_,hI,hG,Pres.refl _ _ _ _,A _ _⟩;exact D.put hd (λtv e=>by simp at e;subst e;exact rfl) (λs m e=>by simp at e)
  |true=>
   simp only at he;simp only [if_true];refine .inl ?_;unfold Oper.wp
   unfold eJ at he
   cases hp:eQ E f o (bC E F.tm)with
   |some q=>
    obtain⟨v,bx⟩:=q;simp only [hp]at he;rcases c9Y (E:=E) (M:=M) (w:=w) (pb:=pb) hI.im hev hp with⟨rfl,r,hr,hv⟩| ⟨cs,d,rc,el,rfl,L,rfl,hr,hc⟩| ⟨rfl,c4⟩
    .simp only [AC]at he;subst he;rw [hr];refine hK _ _ M pb ⟨?_,hI,hG,Pres.refl _ _ _ _,A _ _⟩;exact D.put hd (λtv e=>by simp at e;subst e;exact hv) (λs m e=>by
      simp only [AC]at e;subst e;obtain⟨x,o',O⟩:=c2V hp
      cases x with
      |tmp t=>exact D.addr t s o' O
      |const c=>simp only [bC]at O;obtain⟨y,_,h2⟩:=AD.1 O;cases h2
      |global g=>simp only [bC]at O;obtain⟨y,_,h2⟩:=AD.1 O;cases h2
      |func g=>simp [bC]at O)
    .simp only [L]at he;have b9: ∃c bb,e=⟨c,some (.l d 0),some (d,cs),bb,h⟩/\(bb=true\/F.lv d=none):=by
      split at he
      .split at he
       .rename_i G;simp only [AC]at he;exact⟨_,_,he.symm,.inr G⟩
       .simp at he
      .simp only [AC]at he;exact⟨_,_,he.symm,.inl rfl⟩
     obtain⟨c,bb,rfl,d3⟩:=b9;have b8: ∀t tv,(F.app (some d) ⟨c,some (.l d 0),some (d,cs),bb,h⟩).tm t=some tv->(t=d/\tv= .l d 0) \/ (t≠d/\F.tm t=some tv/\wL d tv=true):=by
      intro t tv R
      by_cases hk:t=d
      .left
       refine⟨hk,?_⟩;subst hk
       cases bb with
       |true=>
        simp only [FF.app,if_true,FF.put,FF.lset,FF.clr,AC]at R;exact R.symm
       |false=>
        simp only [FF.app,BA,if_false,if_true,FF.put,FF.lset,AC]at R;exact R.symm
      .right
       refine⟨hk,?_⟩
       cases bb with
       |true=>
        simp only [FF.app,if_true,FF.put,FF.lset,FF.clr,if_neg hk]at R;split at R
        case h_2=>simp at R
        rename_i x O;split at R
        case isFalse=>simp at R
        rename_i b5;simp only [AC]at R;subst R;exact⟨O,b5⟩
       |false=>
        simp only [FF.app,BA,if_false,FF.put,FF.lset,if_neg hk]at R;refine⟨R,?_⟩
        cases tv with
        |v y=>rfl
        |u=>rfl
        |l s m=>
         obtain⟨f2,h2⟩:=D.addr t s m R;have hn:=d3.resolve_left KB;have:s≠d:=λe=>by subst e;rw [hn]at h2;cases h2
         simpa [wL]using this
     have G: ∀s,(F.app (some d) ⟨c,some (.l d 0),some (d,cs),bb,h⟩).lv s=if s=d then some cs else F.lv s:=by
      intro s
      cases bb<;>simp [FF.app,FF.put,FF.lset,FF.clr]
     rw [hr];simp only [Oper.upon];have nb:=NewBlk.alloc w (.cells rc el);have c5: ¬Wr M h w.heap.size:=by
      rintro⟨id,e⟩;have:=hI.wb_lt e;omega
     have a7: ∀m,M.im w.heap.size m=none:=by
      intro m
      cases e:M.im w.heap.size m with
      |none=>rfl
      |some v=>have:=hI.im_lt e;omega
     have b1:Inv M h (w.alloc (.cells rc el)):=hI.apart c5 a7 (λk _ a5=>nb.old k a5) (by rw [nb.size];omega);refine hK _ _ M (λs=>if s=d then w.heap.size else pb s) ⟨?_,b1,hG,⟨Ext.refl M,by rw [nb.size];omega,rfl,rfl,rfl,λk hk hn=>⟨nb.old k JZ,hn,λ_=>rfl⟩⟩,A _ _⟩;have e6:=D.size;have d5:=hd d L;refine⟨?_,?_,?_,?_,?_⟩
     .rw [L];simpa [Act.put]using D.size
     .intro t tv R;rw [L]at R⊢;simp only [Act.put];rw [Vj _ _ _ _ (AU d5 e6)];rcases b8 t tv R with⟨hk,rfl⟩| ⟨hk,O,b5⟩
      .rw [if_pos hk];simp [TR]
      .rw [if_neg hk];have:=D.tm t tv O
       cases tv with
       |v y=>exact this
       |l s m=>
        have e4:s≠d:=by simpa [wL]using b5
        simpa [TR,e4]using this
       |u=>exact this
     .intro s cs' es;rw [L,G]at es
      by_cases hk:s=d
      .rw [if_pos hk]at es⊢;simp only [AC]at es;subst es;exact⟨hB,c5,a7,rc,el,(0,0),nb.new,λi hi=>kP nb.new (.inl (AF _)) i hi,hc⟩
      .rw [if_neg hk]at es⊢;obtain⟨h1,h2,h3,a2,a8,a9,h4,h5,h6⟩:=D.loc s cs' es;have a5:=cQ h4;exact⟨h1,h2,h3,a2,a8,a9,(nb.old _ a5).trans h4,λi hi=>(oG (nb.old _ a5)).trans (h5 i hi),h6⟩
     .intro s s' c1 c2 e1 e2 e3;rw [L,G]at e1 e2
      by_cases hk:s=d
      .by_cases hk':s'=d
       .rw [hk,hk']
       .rw [if_neg hk']at e2 e3;rw [if_pos hk]at e3;obtain⟨_,_,_,a2,a8,a9,h4,_⟩:=D.loc s' c2 e2;have:=cQ h4;omega
      .rw [if_neg hk]at e1 e3
       by_cases hk':s'=d
       .rw [if_pos hk']at e3;obtain⟨_,_,_,a2,a8,a9,h4,_⟩:=D.loc s c1 e1;have:=cQ h4;omega
       .rw [if_neg hk']at e2 e3;exact D.one s s' c1 c2 e1 e2 e3
     .intro k s m e;rw [L]at e⊢;rw [G]
      by_cases hk:s=d
      .exact⟨cs,by rw [if_pos hk]⟩
      .rw [if_neg hk];rcases b8 k _ e with⟨_,c0⟩| ⟨_,O,_⟩
       .simp at c0;exact absurd c0.1 hk
       .exact D.addr k s m O
    .simp only [AC]at he;subst he;obtain⟨w',M',x,r,rfl,hr,h2,g1,g2⟩:=c4 h hI;rw [hr];have Z:=D.step g2;refine hK _ _ M' pb ⟨?_,g1,hG.mono g2.ext,g2.mono hB,A _ _⟩;exact Z.put hd (λtv e=>by simp at e;subst e;exact h2) (λs m e=>by simp at e)
   |none=>
    simp only [hp]at he
    cases hl:gI E o (bC E F.tm) F.lv with
    |some v=>
     simp only [hl,AC]at he;subst he;obtain⟨t,ad,s,m,T,O⟩:=No hl;simp only [gI,T,O]at hl;split at hl
     case h_2=>simp at hl
     rename_i cs G;obtain⟨y,h1,h2⟩:=AD.1 hl;subst h2;obtain⟨_,_,_,rc,el,fz,h4,h5,h6⟩:=D.loc s cs G;have a1:a.eval ad= .pointer (some ⟨pb s,m,none⟩):=hev _ _ O;obtain⟨r,h7,h8⟩:=H5 (P:=E.P) (w:=w) (b:=pb s) (base:=0) h6 (λi hi=>by simp [World.cell?,h4,show i<rc.size by simpa using hi]) h1;have hr:(execOp a.eval o).run E.P w= .ok (.value r) w:=by
      simp only [execOp,T,a1,Instr.loadAt,Instr.sureAddr];exact cB _ _ (by simpa using h7)
     rw [hr];refine hK _ _ M pb ⟨?_,hI,hG,Pres.refl _ _ _ _,A _ _⟩;exact D.put hd (λtv e=>by simp at e;subst e;exact h8) (λs m e=>by simp at e)
    |none=>
     simp only [hl]at he
     cases hs:iX E o (bC E F.tm) F.lv with
     |some q=>
      obtain⟨s0,cs'⟩:=q;simp only [hs,AC]at he;subst he;obtain⟨t,ad,x,s,m,T,O⟩:=D7 hs;simp only [iX,T,O]at hs;split at hs
      case h_2=>simp at hs
      rename_i s' f0 v' c3 e7;simp only [AC,TV.l.injEq]at c3;obtain⟨rfl,rfl⟩:=c3;split at hs
      case h_2=>simp at hs
      rename_i cs G;obtain⟨y,h1,h2⟩:=AD.1 hs;simp only [BX]at h2;obtain⟨rfl,rfl⟩:=h2;obtain⟨l1,l2,l3,rc,el,fz,h4,h5,h6⟩:=D.loc s cs G;have a1:a.eval ad= .pointer (some ⟨pb s,m,none⟩):=hev _ _ O;have d0:eP M cs (rc.toList.take cs.length):=by rw [AJ (by have:=h6.len;simp at this⊢;omega)];exact h6
      obtain⟨a2,s1,s2,s3,s4,s5,s6⟩:=Yg (P:=E.P) d0 h4 h5 (bG hev e7) h1;have hr:(execOp a.eval o).run E.P w= .ok .skip (w.setCells (pb s) m (a.eval x).cells.toList):=by
       simp only [execOp,T,a1,Instr.storeAt,Instr.sureAddr];exact Qm _ _ (by simpa using s1)
      rw [hr];simp only [Oper.upon];have a0:=λk (hk:k≠pb s)=>fQ (pb s) (a.eval x).cells.toList m w k hk
      have V:=iC (pb s) (a.eval x).cells.toList m w;have e5:=iD (pb s) (a.eval x).cells.toList m w;have a6: ∀c j,(w.setCells (pb s) m (a.eval x).cells.toList).frozen? ⟨c,j,none⟩=w.frozen? ⟨c,j,none⟩:=λc j=>World.frozen?_setCells _ _ _ _ _
      have b1:Inv M h (w.setCells (pb s) m (a.eval x).cells.toList):=hI.apart l2 l3 (λk hk _=>a0 k hk) JZ;have b0:=D.put (d:=o.dst) (v:=none) (r:=undef) hd (λtv e=>by simp at e) (λs m e=>by simp at e);have b8:((F.put o.dst none).lset s y).tm=(F.put o.dst none).tm:=rfl;have Y:(F.put o.dst none).lv=F.lv:=by cases o.dst<;>rfl
      refine hK _ _ M pb ⟨?_,b1,hG,⟨Ext.refl M,JZ,V.1,V.2.1,V.2.2,λk hk hn=>⟨a0 k JZ,hn,λ_=>rfl⟩⟩,A _ _⟩;refine⟨b0.size,λt tv R=>b0.tm t tv R,λz cz ez=>?_,λz z' c1 c2 e1 e2 e3=>?_,λk z c7 e=>?_⟩
      case refine_3=>
       obtain⟨cz,hz⟩:=b0.addr k z c7 e;rw [Y]at hz;simp only [FF.app,BA,if_false,FF.lset,Y]
       by_cases hzs:z=s
       .exact⟨_,if_pos hzs⟩
       .exact⟨cz,by rw [if_neg hzs];exact hz⟩
      .simp only [FF.app,BA,if_false,FF.lset,Y]at ez
       by_cases hz:z=s
       .subst hz;rw [if_pos rfl]at ez;simp only [AC]at ez;subst ez;refine⟨l1,l2,l3,a2,el,fz,s2,λi hi=>by rw [a6];exact h5 i JZ,?_⟩;rw [AJ (by have:=h6.len;simp at this⊢;omega)]at s5;exact s5
       .rw [if_neg hz]at ez;obtain⟨k1,k2,k3,e9,c8,c9,k4,k5,k6⟩:=D.loc z cz ez;have d8:pb z≠pb s:=λe=>hz (D.one z s cz cs ez G e)
        exact⟨k1,k2,k3,e9,c8,c9,(a0 _ d8).trans k4,λi hi=>by rw [a6];exact k5 i hi,k6⟩
      .simp only [FF.app,BA,if_false,FF.lset,Y]at e1 e2;have g1: ∃c,F.lv z=some c:=by
        by_cases hz:z=s
        .exact⟨cs,hz▸G⟩
        .rw [if_neg hz]at e1;exact⟨_,e1⟩
       have g2: ∃c,F.lv z'=some c:=by
        by_cases hz:z'=s
        .exact⟨cs,hz▸G⟩
        .rw [if_neg hz]at e2;exact⟨_,e2⟩
       obtain⟨d1,g1⟩:=g1;obtain⟨d2,g2⟩:=g2;exact D.one z z' d1 d2 g1 g2 e3
     |none=>
      simp only [hs]at he
      cases hr:dR E o (bC E F.tm) h with
      |some v=>
       simp only [hr,AC]at he;subst he;obtain⟨x,r,rfl,h1,h2⟩:=d0A (E:=E) (pb:=pb) hI hev hr;rw [h1];refine hK _ _ M pb ⟨?_,hI,hG,Pres.refl _ _ _ _,A _ _⟩;exact D.put hd (λtv e=>by simp at e;subst e;exact h2) (λs m e=>by simp at e)
      |none=>
       simp only [hr]at he
       cases hee:iM E f o (bC E F.tm) h with
       |some q=>
        obtain⟨v,h'⟩:=q;simp only [hee,AC]at he;subst he;obtain⟨w',M',g1,g2,g3⟩:=a6J (E:=E) (pb:=pb) hI hev hee;have Z:=D.step g2;rcases g3 with⟨x,r,rfl,h1,h2⟩| ⟨rfl,h1⟩
        .rw [h1];refine hK _ _ M' pb ⟨?_,g1,hG.mono g2.ext,g2.mono hB,A _ _⟩;exact Z.put hd (λtv e=>by simp at e;subst e;exact h2) (λs m e=>by simp at e)
        .rw [h1];refine hK _ _ M' pb ⟨?_,g1,hG.mono g2.ext,g2.mono hB,A _ _⟩;exact Z.put hd (λtv e=>by simp at e) (λs m e=>by simp at e)
       |none=>
        simp only [hee]at he
        cases hcl:dI o (bC E F.tm)with
        |none=>simp [hcl]at he
        |some q=>
         obtain⟨g,xs⟩:=q;simp only [hcl]at he;split at he
         case h_2=>simp at he
         rename_i v h' b4;simp only [AC]at he;subst he;unfold dI at hcl;split at hcl
         case h_2=>simp at hcl
         rename_i x X f1 T;split at hcl
         case h_2=>simp at hcl
         rename_i g' p q' f3 O e8;simp only [AC,BX]at hcl;obtain⟨rfl,rfl⟩:=hcl;have d7:VR M (.func (.func g') p q') (a.eval x):=hev _ _ O;obtain⟨rp,rq,d9,vp,vq⟩:=d2G d7;have b2:=oY hev e8;obtain⟨⟨fn,d6,b3,b6⟩,a3⟩:=d4 g' _ _ _ _ b4;have hc:=a3 M w (rp++X.toList.map a.eval++rq) hI hG ((vp.append b2).append vq);have c6:(execOp a.eval o).run E.P w=(callFunc g' (rp++X.toList.map a.eval++rq).toArray).run E.P w:=by
          simp only [execOp,T,resolve,d9,Deferred.ofValue,AT,AZ,AL,invoke]
          congr 2
          apply EL;simp
         have a4:(callFunc g' (rp++X.toList.map a.eval++rq).toArray).run E.P w= .ok (.enter g' (rp++X.toList.map a.eval++rq).toArray) w:=by
          simp only [callFunc,AT,run_program,AL,d6,b6,b3,BA,if_false,AZ]
         rw [c6,a4];simp only [Oper.upon];refine Calls.mono hc (λe w' b7=>?_);obtain⟨r,M',rfl,h1,h2,h3⟩:=b7;have Z:=D.step h3;refine hK _ _ M' pb ⟨?_,h2,hG.mono h3.ext,h3.mono hB,A _ _⟩;exact Z.put hd (λtv e=>by simp at e;subst e;exact h1) (λs m e=>by simp at e)
theorem a8T{f:FuncId}{cf:FuncId->Y14->Heap->Option (IV×Heap)}{ops:List Oper}{draw:Bool}{rs:Y10}{o:Oper}{e:Ef}(A:Uf E cf)(m:Ue E M)(y:Inv M h w)(j:FR M h w B n F a pb)(z:B<=w.heap.size)
  (hd: ∀t,o.dst=some t->t<n) (he:dJ E f cf ops draw rs o F.tm F.lv h=some e) (Q:Exit->Act->World->Prop) (K:Act->World->Prop)
  (hK: ∀a' w' M' pb',Nxt E B n M h w a (F.app o.dst e) e.h a' w' M' pb'->K a' w'):
  if Region.wanted o (yielded ops.toArray a.tmps)then o.wp E.P a w K Q\/ (o.asks E.P a w/\LetsOut Q)else K (a.put o.dst undef) w:=by
 cases rs with
 |none=>exact e1V A m y j z hd he Q K hK
 |some k=>
  have hev:=a6N m j;have i: ∀(d:Option Tmp)(r:Value),(a.put d r).defers=a.defers:=λd r=>by cases d<;>rfl
  unfold dJ at he
  cases hw:dK ops F.tm o with
  |none=>simp [hw]at he
  |some b=>
   rw [Pc j hw];simp only [hw]at he
   cases b with
   |false=>
    simp only [AC]at he;subst he;simp only [BA,if_false];refine hK _ _ M pb ⟨?_,y,m,Pres.refl _ _ _ _,i _ _⟩;exact j.put hd (λtv e=>by simp at e;subst e;exact rfl) (λs u e=>by simp at e)
   |true=>
    simp only at he;simp only [if_true];refine .inl ?_;unfold Oper.wp
    cases ha:Bl E f o (bC E F.tm) k with
    |none=>simp [ha]at he
    |some q=>
     obtain⟨v,x⟩:=q;simp only [ha]at he;have g: ∃c h',e=⟨c,v,none,false,h'⟩/\a0E E M h w o a.eval v h':=by
      cases x with
      |none=>
       simp only [AC]at he;exact⟨_,_,he.symm,c7J (pb:=pb) y hev ha⟩
      |some x=>
       simp only at he;split at he
       case h_2=>cases he
       rename_i hf;simp only [AC]at he;exact⟨_,_,he.symm,d7C (pb:=pb) y hev hf ha⟩
     obtain⟨c,h',rfl,g⟩:=g;obtain⟨w',M',D,g2,G⟩:=g;have l:=j.step g2;rcases G with⟨x,r,rfl,h1,h2⟩| ⟨rfl,h1⟩
     .rw [h1];refine hK _ _ M' pb ⟨?_,D,m.mono g2.ext,g2.mono z,i _ _⟩;exact l.put hd (λtv e=>by simp at e;subst e;exact h2) (λs u e=>by simp at e)
     .rw [h1];refine hK _ _ M' pb ⟨?_,D,m.mono g2.ext,g2.mono z,i _ _⟩;exact l.put hd (λtv e=>by simp at e) (λs u e=>by simp at e)
end
theorem kZ(m b:Nat):lS m b=true ↔ ∀k,m.testBit k=true->b.testBit k=true:=by
 unfold lS
 rw [beq_iff_eq]
 constructor
 .intro h k hk;rw [<-h,Nat.testBit_and]at hk;simp at hk;exact hk.2
 .intro h;apply Nat.eq_of_testBit_eq;intro k;rw [Nat.testBit_and]
  cases hm:m.testBit k with
  |false=>simp
  |true=>simp [h k hm]
theorem nT(i k:Nat):(bit i).testBit k=decide (i=k):=by
 unfold bit
 rw [Nat.testBit_two_pow]
theorem b0Q(m:Met){c g:Cls}(i:Nat)(h:lA c g=true):((m.add c i).chk g).testBit i=true:=by
 cases c<;>cases g<;>first| (simp [lA]at h;done)|simp [Met.add,Met.chk,nT]
section
variable {E:Env} {f:FuncId} {cf:FuncId->Y14->Heap->Option (IV×Heap)} {ops:List Oper} {bef:Nat->Nat}
def Mn(m g:Met):Prop:=(∀k,g.e.testBit k=true->m.e.testBit k=true)/\(∀k,g.r.testBit k=true->m.r.testBit k=true)/\(∀k,g.s.testBit k=true->m.s.testBit k=true)/\(∀k,g.l.testBit k=true->m.l.testBit k=true)/\(∀k,g.a.testBit k=true->m.a.testBit k=true)
def vO(i g:Pd):Prop:= ∀p'∈g,∃p∈i,p.1=p'.1/\∀h,p.2 h=true->p'.2 h=true
theorem Mn.of_add(m:Met)(c:Cls)(i:Nat):Mn (m.add c i) m:=by
 cases c<;>refine⟨λk hk=>?_,λk hk=>?_,λk hk=>?_,λk hk=>?_,λk hk=>?_⟩<;>simp [Met.add,hk]
theorem Mn.add{m r:Met}(h:Mn m r)(c:Cls)(i:Nat):Mn (m.add c i) (r.add c i):=by
 obtain⟨h1,h2,h3,h4,j⟩:=h;have g: ∀a b:Nat,(∀k,b.testBit k=true->a.testBit k=true)-> ∀k,(b|||bit i).testBit k=true->(a|||bit i).testBit k=true:=by
  intro a b l k hk;rw [GI,CL]at hk⊢;rcases hk with hk|hk
  .exact .inl (l k hk)
  .exact .inr hk
 cases c
 .exact⟨h1,h2,h3,h4,j⟩
 .exact⟨h1,h2,h3,g _ _ h4,j⟩
 .exact⟨h1,h2,g _ _ h3,h4,j⟩
 .exact⟨h1,g _ _ h2,h3,h4,j⟩
 .exact⟨g _ _ h1,h2,h3,h4,j⟩
 .exact⟨h1,h2,h3,h4,j⟩
 .exact⟨h1,h2,h3,h4,g _ _ j⟩
theorem Mn.chk{m i:Met}(h:Mn m i)(c:Cls){b:Nat}(g:lS (m.chk c) b=true):lS (i.chk c) b=true:=by
 obtain⟨h1,h2,h3,h4,j⟩:=h;rw [kZ]at g⊢;intro k hk;apply g
 cases c
 .exact hk
 .exact h3 k hk
 .simp only [Met.chk,GI,CL]at hk⊢;rcases hk with hk|hk
  .exact .inl (h3 k hk)
  .exact .inr (h4 k hk)
 .exact h1 k hk
 .simp only [Met.chk,GI,CL]at hk⊢;rcases hk with(hk|hk)|hk
  .exact .inl (.inl (h1 k hk))
  .exact .inl (.inr (h2 k hk))
  .exact .inr (j k hk)
 .exact hk
 .exact h1 k hk
theorem b2I{l:List Nat}{rs:Nat->Y10}{m i:Met}{b:Nat}{id:Y10}{c:Cls}(hm:Mn m i)(g:Sr l rs m b id c=true):Sr l rs i b id c=true:=by
 unfold Sr at g⊢;split at g
 .simp only [CF,CL,BS]at g⊢;intro j r;rcases g j r with z|z|z
  .exact .inl z
  .refine .inr (.inl ?_)
   cases hq:i.a.testBit j with
   |false=>rfl
   |true=>rw [hm.2.2.2.2 j hq]at z;cases z
  .exact .inr (.inr z)
 .rfl
theorem Xx: ∀{l:List Nat}{k j n:Nat},a4F k l j=some n->j∈l
 | [],_,_,_,h=>by cases h
 |i::r,k,j,n,h=>by
  unfold a4F at h;split at h
  .rename_i e;rw [AP e];exact BG
  .exact CC _ (Xx h)
theorem b3J{m r:Met}{u i:Pd}{b:Nat}{e e':Ef}(hm:Mn m r)(A:vO u i)(l:e'.c=e.c)(y:e.c= .e->e'.h=e.h)(g:a4V m u b e=true):a4V r i b e'=true:=by
 unfold a4V at g⊢
 cases hec:e.c with
 |e=>
  rw [hec]at g l;rw [l,y hec];simp only [AE,CF,CL]at g⊢;refine⟨(kZ _ _).2 λk hk=>(kZ _ _).1 g.1 k ?_,λD j=>?_⟩
  .rw [GI,CL]at hk⊢;exact hk.imp (hm.1 k) (hm.2.2.2.2 k)
  obtain⟨p,G,K,L⟩:=A D j;rcases g.2 p G with z|z
  .exact .inl (by rw [<-K];exact z)
  .exact .inr (L _ z)
 |_=>rw [hec]at g;cases g
theorem I2{l:List Nat}{rs:Nat->Y10}{id:Y10}{m r:Met}{u g:Pd}{b:Nat}{e e':Ef}(hm:Mn m r)(A:vO u g)(j:e'.c=e.c)(y:e.c= .e->e'.h=e.h)(i:okB l rs m u b id e=true):
  okB l rs r g b id e'=true:=by
 unfold okB at i⊢;rw [AE,CL]at i⊢;refine⟨?_,by rw [j];exact b2I hm i.2⟩;rcases i.1 with z|z
 .exact .inl (by rw [j];exact hm.chk _ z)
 .exact .inr (b3J hm A j y z)
theorem vO.refl(g:Pd):vO g g:=λp i=>⟨p,i,rfl,λ_ h=>h⟩
theorem vO.of_add(j:Pd)(o:Oper)(ev:Operand->Option TV)(e:Ef)(i:Nat):vO (pL E o ev e i j) j:=by
 intro p g;refine⟨p,?_,rfl,λ_ h=>h⟩;unfold pL
 split
 .exact CC _ g
 .exact g
theorem vO.add{l j:Pd}(h:vO l j)(o:Oper)(ev:Operand->Option TV)(e:Ef)(i:Nat):vO (pL E o ev e i l) (pL E o ev e i j):=by
 unfold pL
 split
 .intro m g;rcases CD.1 g with rfl|g
  .exact⟨_,BG,rfl,λ_ z=>z⟩
  .obtain⟨p,r,u⟩:=h m g;exact⟨p,CC _ r,u⟩
 .exact h
theorem zJ{y:List Nat}{rs:Nat->Y10}{draw:Bool} : ∀{l:List (Oper×Nat)}{m r:Met}{u g:Pd}{F j:FF}{h h':Heap},Uh E f cf ops bef y rs draw l m u F h j h'->Mn m r->vO u g->Uh E f cf ops bef y rs draw l r g F h j h'
 | [],_,_,_,_,_,_,_,_,hr,_,_=>hr
 | (o,i)::l,m,r,u,g,F,j,h,h',hr,hm,hp=>by
  obtain⟨e,r1,z,A⟩:=hr;exact⟨e,r1,λhd=>I2 hm hp rfl (λ_=>rfl) (z hd),zJ A (hm.add _ _) (hp.add _ _ _ _)⟩
theorem Mn.refl(m:Met):Mn m m:=⟨λ_ h=>h,λ_ h=>h,λ_ h=>h,λ_ h=>h,λ_ h=>h⟩
theorem b4S(g:vH E cf){al:List Nat}{rs:Nat->Y10}(a2: ∀j n,rs j=some n->j∈al){o:Oper}{i:Nat}{B:List (Oper×Nat)} : ∀{A:List (Oper×Nat)}{m:Met}{pd:Pd}{F F':FF}{h h':Heap},vT F->(∀p∈A,(bef i).testBit p.2=false/\Oper.apart ops.toArray p.1 o=true)->
  Uh E f cf ops bef al rs true (A++(o,i)::B) m pd F h F' h'->
  ∃e,dJ E f cf ops true (rs i) o F.tm F.lv h=some e/\okB al rs m pd (bef i) (mL o (bC E F.tm)) e=true/\Uh E f cf ops bef al rs true (A++B) m pd (F.app o.dst e) e.h F' h'
 | [],m,pd,F,F',h,h',_,_,hr=>by
  obtain⟨e,r1,r2,r3⟩:=hr;exact⟨e,r1,r2 rfl,zJ r3 (Mn.of_add _ _ _) (vO.of_add _ _ _ _ _)⟩
 | (oa,ia)::A,m,pd,F,F',h,h',hAd,hA,hr=>by
  obtain⟨h1,h2⟩:=hA (oa,ia) KB;obtain⟨G,r1,r2,r3⟩:=hr;obtain⟨y,s1,s2,s3⟩:=b4S g a2 (hAd.appA g r1) (λp hp=>hA p (by simp [hp])) r3;have a1:=r2 rfl;obtain⟨ab,ap,b9,c3,ar,ae,ax,aa⟩:=fK g r1;obtain⟨ib,ip,il,b5,ir,ie,ix,c4⟩:=fK g s1;obtain⟨t1,t2,t3⟩:=Oper.apart_spec h2;have b3:mL o (bC E (F.app oa.dst G).tm)=mL o (bC E F.tm):=X5 (mN (E:=E) (ops:=ops) λt V=>by rw [fZ ab,if_neg (λe=>t1 t e V)]);rw [b3]at s2
  cases hcl:lA G.c y.c with
  |false=>
   have b2:G.c= .a->y.c= .r-> ∀n id,rs ia=some n->mL o (bC E F.tm)=some id->n≠id:=by
    intro c1 c2 n id hn b0;have R:=s2;unfold okB Sr at R;rw [c2,AE]at R;have a3:=R.2;simp only [CF,CL,BS]at a3;obtain⟨_,n',x',w1,_⟩:=aa c1;rw [w1]at hn;simp only [AC]at hn;subst hn;rcases a3 ia (a2 _ _ w1)with z|z|z
    .rw [h1]at z;cases z
    .rw [c1]at z;simp [Met.add,nT]at z
    .rw [w1,b0]at z;simp only [BS]at z;rintro rfl;rw [JR]at z;cases z
   obtain⟨T,X,q1,q2,q3,Z,q5,q6,q7⟩:=f6W g hAd h2 r1 s1 hcl b2;obtain⟨a4,_,_,_,_,_,_,_⟩:=fK g q1;obtain⟨b7,a6,a5,a7,c0,b8,a8,b6⟩:=fK g q2;have O:mL oa (bC E (F.app o.dst T).tm)=mL oa (bC E F.tm):=X5 (mN (E:=E) (ops:=ops) λt V=>by rw [fZ a4,if_neg (λe=>t3 t e V)]);have b1:y.c= .e->T.h=y.h:=by
    intro K;rw [<-q6];rw [K]at hcl
    cases hca:X.c with
    |p=>exact(a6 hca).2.1.symm
    |l=>exact(a5 hca).2.1.symm
    |s=>exact(a7 hca).1.symm
    |b=>exact(a8 hca).1.symm
    |r=>rw [Z]at hca;rw [hca]at hcl;cases hcl
    |e=>rw [Z]at hca;rw [hca]at hcl;cases hcl
    |a=>rw [Z]at hca;rw [hca]at hcl;cases hcl
   have a9:G.c= .e->X.h=G.h:=by
    intro K;rw [q6];rw [K]at hcl
    cases hci:y.c with
    |p=>exact(ip hci).2.1
    |l=>exact(il hci).2.1
    |s=>exact(b5 hci).1
    |b=>exact(ix hci).1
    |r=>rw [hci]at hcl;cases hcl
    |e=>rw [hci]at hcl;cases hcl
    |a=>rw [hci]at hcl;cases hcl
   refine⟨T,q1,I2 (Mn.of_add _ _ _) (vO.of_add _ _ _ _ _) q3 b1 s2,X,q2,λ_=>by rw [O];exact I2 (Mn.refl _) (vO.refl _) Z a9 a1,?_⟩;rw [Z,q5,q6];refine zJ s3 (Mn.refl _) ?_;have hev: ∀h2,dR E oa (bC E (F.app o.dst T).tm) h2=dR E oa (bC E F.tm) h2:=λh2=>X3 (mN (E:=E) (ops:=ops) λt V=>by rw [fZ a4,if_neg (λe=>t3 t e V)])
   unfold pL
   rw [Z]
   cases hca:G.c with
   |r=>
    simp only [q7,hev];exact vO.refl _
   |_=>exact vO.refl _
  |true=>
   have u:=s2;unfold okB at u;rw [AE,CL]at u;rcases u.1 with u|u
   .have:=(kZ _ _).1 u ia (b0Q m ia hcl);rw [h1]at this;cases this
   .have a0:y.c= .e:=by
     unfold a4V at u
     cases K:y.c with
     |e=>rfl
     |_=>rw [K]at u;cases u
    have R:=u;unfold a4V at R;rw [a0]at R hcl;simp only [AE]at R;have L:G.c= .r:=by
     cases K:G.c with
     |r=>rfl
     |e=>
      exfalso;have:=(kZ _ _).1 R.1 ia (by rw [K];simp [Met.add,nT]);rw [h1]at this;cases this
     |a=>
      exfalso;have:=(kZ _ _).1 R.1 ia (by rw [K];simp [Met.add,nT]);rw [h1]at this;cases this
     |_=>rw [K]at hcl;cases hcl
    have D:=R.2;unfold pL at D;rw [L]at D;simp only [EZ,AE,h1,EA]at D;have hP:=D.1;have Y:dJ E f cf ops true (rs ia) oa F.tm F.lv y.h=some {G with h:=y.h } :=by
     split at hP
     .rename_i v2 v b4 hv;have e1:=d1I hP;subst e1;exact b0W r1 L b4 hv
     .cases hP
    obtain⟨g1,g2,g3⟩:=f1O g h2 r1 s1 L a0 Y;have O:mL oa (bC E (F.app o.dst y).tm)=mL oa (bC E F.tm):=X5 (mN (E:=E) (ops:=ops) λt V=>by rw [fZ ib,if_neg (λe=>t3 t e V)]);refine⟨y,g1,I2 (Mn.of_add _ _ _) (vO.of_add _ _ _ _ _) rfl (λ_=>rfl) s2,{G with h:=y.h },g2,λ_=>?_,?_⟩
    .rw [O];exact I2 (e:=G) (e':= {G with h:=y.h }) (Mn.refl _) (vO.refl _) rfl (λK=>by rw [L]at K;cases K) a1
    .rw [g3];refine zJ s3 (Mn.refl _) ?_;have hev: ∀h2,dR E oa (bC E (F.app o.dst y).tm) h2=dR E oa (bC E F.tm) h2:=λh2=>X3 (mN (E:=E) (ops:=ops) λt V=>by rw [fZ ib,if_neg (λe=>t3 t e V)])
     unfold pL
     simp only [L,hev];exact vO.refl _
structure RegOk(ops:List Oper)(bef:Nat->Nat):Prop where
 back: ∀i o,ops[i]?=some o-> ∀e∈o.after.toList,Region.binds .any e=true->e.on<i
 apart: ∀i o a oa,ops[i]?=some o->a<i->ops[a]?=some oa->(bef i).testBit a=false->Oper.apart ops.toArray oa o=true
 clos: ∀i o a,ops[i]?=some o->(bef i).testBit a=true-> ∃e∈o.after.toList,Region.binds .any e=true/\(e.on=a\/ (bef e.on).testBit a=true)
theorem a3N(z:RegOk ops bef){P:Nat->Prop}(g: ∀j o,P j->ops[j]?=some o-> ∀e∈o.after.toList,Region.binds .any e=true->P e.on)(u: ∀j,P j-> ∃o,ops[j]?=some o):
  ∀i o,ops[i]?=some o->(∀e∈o.after.toList,Region.binds .any e=true->P e.on)-> ∀a,(bef i).testBit a=true->P a:=by
 intro i
 induction i using Nat.strongRecOn with
 |_ i ih=>
  intro o ho D a A;obtain⟨e,h1,h2,h3⟩:=z.clos i o a ho A;have y:=D e h1 h2;rcases h3 with rfl|h3
  .exact y
  .obtain⟨G,l⟩:=u _ y;exact ih e.on (z.back i o ho e h1 h2) G l (λe' m r=>g _ _ y l e' m r) a h3
variable {B n:Nat}
structure Todo(ops:List Oper)(n:Nat)(L:List (Oper×Nat)):Prop where
 at_: ∀p∈L,ops[p.2]?=some p.1
 dst: ∀p∈L,∀t,p.1.dst=some t->t<n
theorem Nxt.trans'{M l m:Meta}{h h1 h2:Heap}{w z A:World}{a r u:Act}{D j:FF}{i g:Nat->Nat}(x:Nxt E B n M h w a D h1 r z l i)(y:Nxt E B n l h1 z r j h2 u A m g):
 Nxt E B n M h w a j h2 u A m g:=⟨y.fr,y.inv,y.glob,x.pres.trans y.pres,y.defers.trans x.defers⟩
theorem Wh{O:List Nat}{rs:Nat->Y10}{draw:Bool}(g:Uf E cf)(Q:Exit->Act->World->Prop): ∀(L:List (Oper×Nat))(m:Met)(z:Pd)(F:FF)(h:Heap)(l:FF)(h':Heap),Uh E f cf ops bef O rs draw L m z F h l h'->Todo ops n L->
  ∀(M:Meta)(w:World)(a:Act)(pb:Nat->Nat),Ue E M->Inv M h w->FR M h w B n F a pb->B<=w.heap.size->
  (∀a' w' M' pb',Nxt E B n M h w a l h' a' w' M' pb'->Q .normal a' w')->wpOps E.P ops.toArray Q (L.map (·.2)) a w
 | [],m,z,F,h,l,h',hr,hT,M,w,a,pb,hG,hI,hF,hB,hQ=>by
  obtain⟨rfl,rfl⟩:=hr;exact hQ a w M pb ⟨hF,hI,hG,Pres.refl _ _ _ _,rfl⟩
 | (o,i)::L,m,z,F,h,l,h',hr,hT,M,w,a,pb,hG,hI,hF,hB,hQ=>by
  obtain⟨e,r1,Y,T⟩:=hr;have ho:ops.toArray[i]?=some o:=by simpa using hT.at_ (o,i) KB
  simp only [BN,wpOps,ho];refine a8T g hG hI hF hB (hT.dst (o,i) KB) r1 Q _ (λG V A u j=>?_);exact Wh g Q L _ _ _ _ _ _ T ⟨λp r=>hT.at_ p (by simp [r]),λp r=>hT.dst p (by simp [r])⟩ A V G u j.glob j.inv j.fr (CG hB j.pres.size)
   (λK X D y R=>hQ K X D y (j.trans' R))
structure Lst(ops:List Oper)(L:List (Oper×Nat))(listed:Array Bool):Prop where
 size:listed.size=ops.length
 iff_: ∀i,i<ops.length->(listed.getD i true=false ↔ ∃p∈L,p.2=i)
 clos: ∀j o,ops[j]?=some o->listed.getD j true=true-> ∀e∈o.after.toList,Region.binds .any e=true->listed.getD e.on false=true
theorem vV{p q:Oper×Nat}(h:vI ops p q=true):p.2<q.2\/ (p.2≠q.2/\(∀e∈p.1.after.toList,e.on≠q.2)/\Oper.apart ops.toArray p.1 q.1=true):=by
 unfold vI at h;simp only [CL,AE,CF,BS]at h;rcases h with h| ⟨⟨h1,h2⟩,h3⟩
 .exact .inl (CB h)
 .exact .inr ⟨FE h1,λe g=>FE (h2 e g),h3⟩
theorem Ui{p q:Oper×Nat}(h:vI ops p q=true):p.2≠q.2:=by
 rcases vV h with z|z
 .omega
 .exact z.1
theorem Mq: ∀{L:List (Oper×Nat)},Cm ops L=true->L.Pairwise (λp q=>vI ops p q=true)
 | [],_=> .nil
 |p::r,h=>by
  simp only [Cm,AE,CF]at h;exact .cons h.1 (Mq h.2)
theorem G0(l:Array Bool)(i:Nat)(h:i<l.size)(a b:Bool):l.getD i a=l.getD i b:=by simp [CX,h]
theorem c7L{al:List Nat}{rs:Nat->Y10}(a7: ∀j n,rs j=some n->j∈al)(c1:Uf E cf)(b1:vH E cf)(hR:RegOk ops bef)(Q:Exit->Act->World->Prop): ∀(O:Nat)(L:List (Oper×Nat))(g:Array Bool)(m:Met)(pd:Pd)(F:FF)(h:Heap)(F':FF)(h':Heap),L.length<=O->Uh E f cf ops bef al rs true L m pd F h F' h'->Todo ops n L->L.Pairwise (λp q=>vI ops p q=true)->Lst ops L g->
  ∀(M:Meta)(w:World)(a:Act)(pb:Nat->Nat),Ue E M->Inv M h w->FR M h w B n F a pb->B<=w.heap.size->
  (∀a' w' M' pb',Nxt E B n M h w a F' h' a' w' M' pb'->Q .normal a' w')->wpAny E.P .any ops.toArray Q O g a w:=by
 have empty: ∀{L:List (Oper×Nat)}{g:Array Bool},Todo ops n L->L.Pairwise (λp q=>vI ops p q=true)->Lst ops L g->Region.ready .any ops.toArray g=[]->L=[]:=by
  intro L g hT a7 K hr
  cases L with
  |nil=>rfl
  |cons p L=>
   exfalso;have hp:=hT.at_ p KB;have a4:p.2<ops.length:=(BT.1 hp).1;have D:=(K.iff_ p.2 a4).2 ⟨p,KB,rfl⟩;have:p.2∈Region.ready .any ops.toArray g:=by
    simp only [Region.ready,List.mem_filter,EO,DZ];refine⟨a4,?_⟩;simp only [D,FJ,BD,ED,hp,DC,FP];rw [GX];intro e T
    cases R:Region.binds .any e with
    |false=>simp
    |true=>
     have c5:=hR.back p.2 p.1 hp e (by simpa using T) R;have a6:e.on<ops.length:=JZ;simp only [GW,EA];rw [G0 g e.on (by rw [K.size];exact a6) false true]
     cases l:g.getD e.on true with
     |true=>rfl
     |false=>
      obtain⟨q,q1,q2⟩:=(K.iff_ e.on a6).1 l;have r:=HS.1 a7;simp only [CD]at q1;rcases q1 with rfl|q1
      .omega
      .rcases vV (r.1 q q1)with z| ⟨_,z,_⟩
       .omega
       .exact absurd q2.symm (z e (by simpa using T))
   rw [hr]at this;simp at this
 intro O
 induction O with
 |zero=>
  intro L g m pd F h F' h' Y hr hT Z K M w a pb hG hI hF hB hQ;have:L=[]:=by simpa using Y
  subst this;obtain⟨rfl,rfl⟩:=hr;refine⟨?_,hQ a w M pb ⟨hF,hI,hG,Pres.refl _ _ _ _,rfl⟩⟩;simp only [Region.ready];rw [List.filter_eq_nil_iff];intro i hi;simp only [EO,DZ]at hi;have: ¬g.getD i true=false:=by
   rw [K.iff_ i hi];simp
  simp at this;simp [this]
 |succ O ih=>
  intro L g m pd F h F' h' Y hr hT Z K M w a pb hG hI hF hB hQ;refine⟨λc8=>?_,λi hi=>?_⟩
  .have:=empty hT Z K c8;subst this;obtain⟨rfl,rfl⟩:=hr;exact hQ a w M pb ⟨hF,hI,hG,Pres.refl _ _ _ _,rfl⟩
  .simp only [Region.ready,List.mem_filter,EO,DZ,AE,BS,ED]at hi;obtain⟨a4,D,X⟩:=hi;obtain⟨p,hp,b3⟩:=(K.iff_ i a4).1 D;obtain⟨o,u⟩:=p;simp only at b3;subst b3;obtain⟨A,B',b8⟩:=List.append_of_mem hp;subst b8;have ho:ops[u]?=some o:=hT.at_ _ hp;have a3: ∀e∈o.after.toList,Region.binds .any e=true->g.getD e.on false=true:=by
    simp only [ho,DC,FP]at X;rw [GX]at X;intro e T R;have:=X e (by simpa using T);simpa [R]using this
   have r:=JJ.1 Z;have a5: ∀q∈A,vI ops q (o,u)=true:=λq l=>r.2.2 q l (o,u) KB
   have c2: ∀j oj,(j<ops.length/\g.getD j true=true)->ops[j]?=some oj-> ∀e∈oj.after.toList,Region.binds .any e=true->(e.on<ops.length/\g.getD e.on true=true):=by
    intro j oj V G e T R;have h1:=hR.back j oj G e T R;have h2:=K.clos j oj G V.2 e T R;refine⟨JZ,?_⟩
    rwa [G0 g e.on (by rw [K.size];omega) true false]
   have b0:=a3N hR (P:=λj=>j<ops.length/\g.getD j true=true) c2 (λj V=>⟨_,AB V.1⟩) u o ho
    (λe T R=>by
     have h1:=hR.back u o ho e T R;refine⟨JZ,?_⟩;rw [G0 g e.on (by rw [K.size];omega) true false];exact a3 e T R)
   have c7:=b4S b1 a7 hF.addr (λq l=>by
    have b4:q∈A++(o,u)::B':=by simp [l]
    have b6:=hT.at_ q b4;have b5:q.2<ops.length:=(BT.1 b6).1;have c6:=(K.iff_ q.2 b5).2 ⟨q,b4,rfl⟩;have b2:(bef u).testBit q.2=false:=by
     cases R:(bef u).testBit q.2 with
     |false=>rfl
     |true=>
      have:=(b0 q.2 R).2;rw [c6]at this;simp at this
    refine⟨b2,?_⟩;rcases vV (a5 q l)with z| ⟨_,_,z⟩
    .exact hR.apart u o q.2 q.1 ho z b6 b2
    .exact z) hr
   obtain⟨e,r1,r2,r3⟩:=c7;have c0:Todo ops n (A++B'):=by
    refine⟨λq l=>hT.at_ q ?_,λq l=>hT.dst q ?_⟩
    .simp at l⊢;rcases l with l|l<;>simp [l]
    .simp at l⊢;rcases l with l|l<;>simp [l]
   have b7:(A++B').Pairwise (λp q=>vI ops p q=true):=JJ.2 ⟨r.1,(HS.1 r.2.1).2,λx hx y hy=>r.2.2 x hx y (by simp [hy])⟩;have a8: ∀q∈A,q.2≠u:=λq l=>Ui (a5 q l)
   have a9: ∀q∈B',q.2≠u:=λq l=>(Ui ((HS.1 r.2.1).1 q l)).symm
   have a0: ∀j,j<ops.length->(g.setIfInBounds u true).getD j true=if j=u then true else g.getD j true:=by
    intro j V;simp only [CX,CW]
    by_cases hji:j=u
    .subst hji;simp [K.size,V]
    .rw [if_neg (λe=>hji e.symm),if_neg hji]
   have b9:Lst ops (A++B') (g.setIfInBounds u true):=by
    refine⟨by simpa using K.size,λj V=>?_,λj oj G V e T R=>?_⟩
    .rw [a0 j V]
     by_cases hji:j=u
     .subst hji;simp only [if_true]
      constructor
      .intro h;simp at h
      .rintro⟨q,l,e⟩;simp only [BZ]at l;rcases l with l|l
       .exact absurd e (a8 q l)
       .exact absurd e (a9 q l)
     .rw [if_neg hji,K.iff_ j V]
      constructor
      .rintro⟨q,l,e⟩;simp only [BZ,CD]at l;rcases l with l|rfl|l
       .exact⟨q,by simp [l],e⟩
       .exact absurd e.symm hji
       .exact⟨q,by simp [l],e⟩
      .rintro⟨q,l,e⟩;simp only [BZ]at l;rcases l with l|l
       .exact⟨q,by simp [l],e⟩
       .exact⟨q,by simp [l],e⟩
    .have c3:j<ops.length:=(BT.1 G).1;have c5:=hR.back j oj G e T R;have d1:(g.setIfInBounds u true).size=ops.length:=by simpa using K.size
     rw [G0 _ e.on JZ false true,a0 _ JZ]
     by_cases hei:e.on=u
     .simp [hei]
     .rw [if_neg hei];rw [G0 g e.on (by rw [K.size];omega) true false];rw [a0 j c3]at V
      by_cases hji:j=u
      .subst hji;rw [ho]at G;simp at G;subst G;exact a3 e T R
      .rw [if_neg hji]at V;exact K.clos j oj G V e T R
   have c4:ops.toArray[u]?=some o:=by simpa using ho
   simp only [wpOp,c4];refine a8T c1 hG hI hF hB (hT.dst (o,u) KB) r1 Q _ (λa1 w1 M1 c9 hx=>?_);exact ih (A++B') _ _ _ _ _ _ _ (by simp at Y⊢;omega) r3 c0 b7 b9 M1 w1 a1 c9 hx.glob hx.inv hx.fr (CG hB hx.pres.size) (λa2 w2 M2 d0 hy=>hQ a2 w2 M2 d0 (hx.trans' hy))
end
def a3Z(ops:List Oper)(bef:Nat->Nat):Bool:=
 ops.zipIdx.all λ(o,i)=>
  o.after.toList.all (λe=>!Region.binds .any e||decide (e.on<i)) &&
  (ops.zipIdx.all (λ(oa,a)=>!decide (a<i)|| (bef i).testBit a||Oper.apart ops.toArray oa o) &&
  lS (bef i) (o.after.toList.foldl (λs e=>if Region.binds .any e then s|||bit e.on|||bef e.on else s) 0))
theorem Nh(bef:Nat->Nat)(a:Nat): ∀(l:List Edge)(s:Nat),(l.foldl (λs e=>if Region.binds .any e then s|||bit e.on|||bef e.on else s) s).testBit a=true->
  s.testBit a=true\/ ∃e∈l,Region.binds .any e=true/\(e.on=a\/ (bef e.on).testBit a=true)
 | [],s,h=> .inl h
 |e::l,s,h=>by
  simp only [IW]at h;rcases Nh bef a l _ h with h| ⟨e',h1,h2⟩
  .split at h
   .rename_i g;simp only [GI,CL,nT,decide_eq_true_eq]at h;rcases h with(h|h)|h
    .exact .inl h
    .exact .inr ⟨e,KB,g,.inl h⟩
    .exact .inr ⟨e,KB,g,.inr h⟩
   .exact .inl h
  .exact .inr ⟨e',by simp [h1],h2⟩
theorem H9{ops:List Oper}{i:Nat}{o:Oper}(h:ops[i]?=some o):(o,i) ∈ops.zipIdx:=by
 rw [EG];exact h
theorem c3E{ops:List Oper}{bef:Nat->Nat}(h:a3Z ops bef=true):RegOk ops bef:=by
 unfold a3Z at h;rw [CF]at h;have h': ∀i o,ops[i]?=some o->_:=λi o ho=>h (o,i) (H9 ho)
 simp only [AE,CF]at h';refine⟨λi o ho e r g=>?_,λi o a y ho j m l=>?_,λi o a ho g=>?_⟩
 .have:=(h' i o ho).1 e r;simpa [g]using this
 .have:=(h' i o ho).2.1 (y,a) (H9 m);simpa [j,l]using this
 .have u:=(kZ _ _).1 (h' i o ho).2.2 a g;rcases Nh bef a _ _ u with h0|h1
  .simp at h0
  .exact h1
def iP(n:Nat):Code->Bool
 | .region _ ops draw=>ops.toList.all (λo=>match o.dst with|some t=>decide (t<n)|none=>true) && (!draw||a3Z ops.toList (Co ops))
 | .seq a b=>iP n a&&iP n b
 | .cond _ a b=>iP n a&&iP n b
 | .block _ c=>iP n c
 | .loop c=>iP n c
 | .scope c=>iP n c
 |_=>true
def a1T(fn:Func):Bool:=
 match fn.body with
 | some c => iP fn.ntmps c && !(fn.name == "runtime.NumGoroutine")
 |none=>true
def X2(P:Program):Bool:=P.funcs.toList.all a1T
def Ex.toExit:Ex->Exit
 | .normal=> .normal
 | .exit id=> .exit id
 | .ret=> .ret
section
variable {E:Env} {f:FuncId} {cf:FuncId->Y14->Heap->Option (IV×Heap)} {N B n:Nat}
theorem c4C{ops:List Oper}(hd:ops.all (λo=>match o.dst with|some t=>decide (t<n)|none=>true)=true):Todo ops n ops.zipIdx:=by
 refine⟨λp g=>?_,λp g t j=>?_⟩
 .obtain⟨o,i⟩:=p;exact(EG).1 g
 .obtain⟨o,i⟩:=p;have ho:=(EG).1 g;rw [CF]at hd;have:=hd o (EM ho);simp only at j;rw [j]at this;simpa using this
theorem c3G(ops:List Oper):ops.zipIdx.Pairwise (λp q=>vI ops p q=true):=by
 rw [ID];intro i j l m g;simp only [List.getElem_zipIdx,vI,CL];exact .inl (Nat.ble_eq_true_of_le JZ)
theorem H8{ops:List Oper}{l:List Nat}{p:Oper×Nat} :p∈Af ops l ↔ p.2∈l/\ops[p.2]?=some p.1:=by
 unfold Af
 simp only [GD,AD]
 constructor
 .rintro⟨i,g,o,ho,rfl⟩;exact⟨g,ho⟩
 .rintro⟨h1,h2⟩;exact⟨p.2,h1,p.1,h2,rfl⟩
theorem a3W(l:List Nat)(draw:Bool)(ops:List Oper):X1 l draw ops=ops.zipIdx\/ (draw=true/\X1 l draw ops=Af ops l/\l.length<=ops.length/\(∀j,j<ops.length->j∈l)/\Cm ops (Af ops l)=true):=by
 unfold X1
 split
 .rename_i i r;split
  .rename_i h;simp only [AE,CF,EO]at h;exact .inr ⟨rfl,rfl,CB h.1.1,λj g=>by simpa using h.1.2 j g,h.2⟩
  .exact .inl rfl
 .exact .inl rfl
theorem d3X(ops:List Oper):ops.zipIdx.map (·.2)=List.range ops.length:=by
 apply DE;intro i
 by_cases h:i<ops.length
 .simp [h,FU]
 .simp [h]
theorem Nr(ops:List Oper):Lst ops ops.zipIdx (Array.replicate ops.length false):=by
 refine⟨KB,λi l=>?_,λj o m r=>?_⟩
 .simp only [CX,IJ,l,if_true,FP,true_iff];exact⟨(ops[i],i),H9 (AB l),rfl⟩
 .have g:=(BT.1 m).1;simp [CX,g]at r
theorem c0P{ops:List Oper}{l:List Nat}(h: ∀j,j<ops.length->j∈l):Lst ops (Af ops l) (Array.replicate ops.length false):=by
 have h0:=Nr ops;refine⟨h0.size,λi m=>?_,h0.clos⟩;rw [h0.iff_ i m]
 constructor
 .rintro⟨q,g,e⟩;exact⟨q,H8.2 ⟨by rw [e];exact h i m,(EG).1 g⟩,e⟩
 .rintro⟨q,g,e⟩;exact⟨q,H9 (H8.1 g).2,e⟩
theorem b2X{ops:List Oper}{l:List Nat}(h:Todo ops n ops.zipIdx):Todo ops n (Af ops l):=
 ⟨λ_ g=>(H8.1 g).2,λp g=>h.dst p (H9 (H8.1 g).2)⟩
structure Sim(E:Env)(B n:Nat)(M:Meta)(h:Heap)(w:World)(fr:Fr)(a:Act)(pb:Nat->Nat):Prop where
 glob:Ue E M
 inv:Inv M h w
 fr:FR M h w B n fr.ff a pb
 le:B<=w.heap.size
theorem Nxt.sim{M M':Meta}{h h':Heap}{w w':World}{g:Fr}{a j:Act}{i:Nat->Nat}(x:Nxt E B n M h w a g.ff h' j w' M' i)(l:B<=w.heap.size):Sim E B n M' h' w' g j i:=⟨x.glob,x.inv,x.fr,CG l x.pres.size⟩
theorem FR.forget1{M:Meta}{h:Heap}{w:World}{g:Fr}{a:Act}{pb:Nat->Nat}(s:Nat)(j:FR M h w B n g.ff a pb):FR M h w B n (Fr.ff {tm:=g.tm.filt (wL s),lv:=g.lv.set s none }) a pb:=by
 have l: ∀k tv,(g.tm.filt (wL s)).get k=some tv->g.tm.get k=some tv/\wL s tv=true:=by
  intro k tv e;rw [PT.get_filt]at e;split at e
  .rename_i x O;split at e
   .rename_i L;simp only [AC]at e;subst e;exact⟨O,L⟩
   .cases e
  .cases e
 have i: ∀t cs,(g.lv.set s none).get t=some cs->t≠s/\g.lv.get t=some cs:=by
  intro t cs e;rw [PT.get_set]at e;split at e
  .cases e
  .rename_i hk;exact⟨hk,e⟩
 refine⟨j.size,λk tv e=>j.tm k tv (l k tv e).1,λt cs e=>j.loc t cs (i t cs e).2,λt z u y A D G=>j.one t z u y (i t u A).2 (i z y D).2 G,λk t r e=>?_⟩;obtain⟨h1,h2⟩:=l k _ e;have m:t≠s:=by simpa [wL]using h2
 obtain⟨cs,K⟩:=j.addr k t r h1;refine⟨cs,?_⟩;show(g.lv.set s none).get t=some cs;rw [PT.get_set,if_neg m];exact K
theorem FR.forget{M:Meta}{h:Heap}{w:World}{a:Act}{pb:Nat->Nat} : ∀(l:List Nat){g:Fr},FR M h w B n g.ff a pb->FR M h w B n (g.forget l).ff a pb
 | [],_,hF=>hF
 |s::r,_,hF=>FR.forget r (hF.forget1 s)
theorem FR.start{M:Meta}{h:Heap}{w:World}{a:Act}{pb:Nat->Nat}{g:Fr}{f:FuncId}{ops:List Oper}{draw:Bool}(i:FR M h w B n g.ff a pb):FR M h w B n (g.start E f ops draw).ff a pb:=by
 unfold Fr.start
 split
 .exact FR.forget _ i
 .exact i
def e7G(E:Env)(B n:Nat)(c:Code)(j:Fr)(h:Heap)(i:Ex)(g:Fr)(h':Heap):Prop:=
 ∀M w a pb,Sim E B n M h w j a pb-> ∀Q:Exit->Act->World->Prop,(∀a' w' M' pb',Nxt E B n M h w a g.ff h' a' w' M' pb'->Q i.toExit a' w')->c.wp E.P Q a w
theorem a4A(K:Uf E cf)(L:vH E cf)(hm:E.P.follows .mixedOrders=true){id:Nat}{ops:Array Oper}{draw:Bool}{R m:Fr}{h h':Heap}(u:iP n (.region id ops draw)=true)
  (hr:pN E f cf ops.toList draw (Co ops) (E.an f id) (a4F h.next (E.an f id)) (X1 (E.od f id) draw ops.toList) {} [] R (h.reserve (E.an f id).length)=some (m,h')):e7G E B n (.region id ops draw) R h .normal m h':=by
 intro M0 w a pb j Q Z;obtain⟨M,X,r⟩:=j.inv.reserve (E.an f id).length;have i:Sim E B n M (h.reserve (E.an f id).length) w R a pb:=⟨j.glob.mono r.ext,X,j.fr.step r,j.le⟩;have hQ: ∀D w' M' l,Nxt E B n M (h.reserve (E.an f id).length) w a m.ff h' D w' M' l->Q Ex.normal.toExit D w':=λD w' M' l g=>Z D w' M' l ⟨g.fr,g.inv,g.glob,(r.mono j.le).trans g.pres,g.defers⟩
 simp only [iP,AE]at u;have A:=a8Y (E:=E) (f:=f) (cf:=cf) (ops:=ops.toList) (bef:=Co ops) hr;have G:=c4C u.1
 cases draw with
 |false=>
  refine wp_region ?_;rw [show X1 (E.od f id) false ops.toList=ops.toList.zipIdx from rfl]at A;have:=Wh (ops:=ops.toList) K Q _ _ _ _ _ _ _ A G M w a pb i.glob i.inv i.fr i.le hQ;rw [d3X]at this;simpa using this
 |true=>
  refine wp_region_any hm ?_;have hR:=c3E (by simpa using u.2);have V:=i.inv.drew;have T:FR M (h.reserve (E.an f id).length) w.drew B n R.ff a pb:=⟨i.fr.size,i.fr.tm,i.fr.loc,i.fr.one,i.fr.addr⟩;have Y:Todo ops.toList n (X1 (E.od f id) true ops.toList)/\(X1 (E.od f id) true ops.toList).Pairwise (λp q=>vI ops.toList p q=true)/\Lst ops.toList (X1 (E.od f id) true ops.toList) (Array.replicate ops.toList.length false)/\(X1 (E.od f id) true ops.toList).length<=ops.toList.length:=by
   rcases a3W (E.od f id) true ops.toList with z| ⟨_,z,z0,z1,z2⟩
   .rw [z];exact⟨G,c3G _,Nr _,KB⟩
   .rw [z];exact⟨b2X G,Mq z2,c0P z1,CG (IK _ _) z0⟩
  obtain⟨G,y,hL,O⟩:=Y;have:=c7L (ops:=ops.toList) (λ_ _ e=>Xx e) K L hR Q ops.toList.length _ _ _ _ _ _ _ _ O A G y hL M w.drew a pb i.glob V T i.le (λD w' M' l g=>hQ D w' M' l
   ⟨g.fr,g.inv,g.glob,⟨g.pres.ext,g.pres.size,g.pres.os,g.pres.tape,g.pres.output,g.pres.keep⟩,g.defers⟩)
  simpa using this
theorem b7B(a4:Uf E cf)(a0:vH E cf)(hm:E.P.follows .mixedOrders=true): ∀(c:Code),iP n c=true-> ∀(D:Fr)(h:Heap)(A:Ex)(m:Fr)(h':Heap),dV E f cf N c D h=some (A,m,h')->e7G E B n c D h A m h':=by
 intro c
 induction c with
 |skip=>
  intro i D h A m h' g;simp [dV]at g;obtain⟨rfl,rfl,rfl⟩:=g;intro M w a pb j Q z;exact wp_skip (z a w M pb ⟨j.fr,j.inv,j.glob,Pres.refl _ _ _ _,rfl⟩)
 |region id ops draw=>
  intro i D h A m h' g;simp only [dV]at g;split at g
  case h_2=>simp at g
  rename_i X h1 R;simp at g;obtain⟨rfl,rfl,rfl⟩:=g;exact λM w a pb j Q z=>a4A a4 a0 hm i R M w a pb ⟨j.glob,j.inv,j.fr.start,j.le⟩ Q z
 |seq x y ihx ihy=>
  intro i D h A m h' g;simp only [iP,AE]at i;simp only [dV]at g;intro M w a pb j Q z;refine wp_seq ?_;split at g
  .rename_i X h1 R;refine ihx i.1 _ _ _ _ _ R M w a pb j _ (λG K O u L=>?_);show y.wp E.P Q G K;refine ihy i.2 _ _ _ _ _ g O K G u (L.sim j.le) Q (λa2 w2 M2 Z hy=>z a2 w2 M2 Z (L.trans' hy))
  .rename_i T;refine ihx i.1 _ _ _ _ _ g M w a pb j _ (λG K O u L=>?_);have V:=z G K O u L
   cases A with
   |normal=>exact absurd g (T _ _)
   |exit id=>exact V
   |ret=>exact V
 |cond c x y ihx ihy=>
  intro i D h A m h' g;simp only [iP,AE]at i;simp only [dV]at g;intro M w a pb j Q z;split at g
  .rename_i R;have hv:VR M (.bool true) (a.eval c):=a6N j.glob j.fr c _ R;generalize hc:a.eval c=r at hv
   cases hv
   exact wp_cond_true hc (ihx i.1 _ _ _ _ _ g M w a pb j Q z)
  .rename_i R;have hv:VR M (.bool false) (a.eval c):=a6N j.glob j.fr c _ R;generalize hc:a.eval c=r at hv
   cases hv
   exact wp_cond_false hc (ihy i.2 _ _ _ _ _ g M w a pb j Q z)
  .simp at g
 |block id x ihx=>
  intro i D h A m h' g;simp only [iP]at i;simp only [dV]at g;intro M w a pb j Q z;refine wp_block ?_;split at g
  .rename_i a3 X h1 R;refine ihx i _ _ _ _ _ R M w a pb j _ (λG K O u L=>?_);show(if a3=id then Q .normal G K else Q (.exit a3) G K);split at g
   .rename_i Y;simp at g;obtain⟨rfl,rfl,rfl⟩:=g;rw [if_pos Y];exact z G K O u L
   .rename_i Y;simp at g;obtain⟨rfl,rfl,rfl⟩:=g;rw [if_neg Y];exact z G K O u L
  .rename_i T;refine ihx i _ _ _ _ _ g M w a pb j _ (λG K O u L=>?_);have V:=z G K O u L
   cases A with
   |normal=>exact V
   |exit id=>exact absurd g (T _ _ _)
   |ret=>exact V
 |loop x ihx=>
  intro i D h A m h' g;simp only [iP]at i;simp only [dV]at g;intro M w a pb j Q z;refine wp_loop_rounds N ?_;have a5: ∀(k:Nat)(D:Fr)(h:Heap),lQ (dV E f cf N x) k D h=some (A,m,h')-> ∀M w a pb,Sim E B n M h w D a pb->
    (∀a' w' M' pb',Nxt E B n M h w a m.ff h' a' w' M' pb'->Q A.toExit a' w')->Code.rounds E.P x Q k a w:=by
   intro k
   induction k with
   |zero=>intro D h g;simp [lQ]at g
   |succ k ihk=>
    intro D h g M w a pb j z;rw [rounds_succ];unfold lQ at g;split at g
    .rename_i X h1 R;refine ihx i _ _ _ _ _ R M w a pb j _ (λG K O u L=>?_);show Code.rounds E.P x Q k G K;exact ihk X h1 g O K G u (L.sim j.le) (λa2 w2 M2 Z hy=>z a2 w2 M2 Z (L.trans' hy))
    .rename_i T;refine ihx i _ _ _ _ _ g M w a pb j _ (λG K O u L=>?_);have V:=z G K O u L
     cases A with
     |normal=>exact absurd g (T _ _)
     |exit id=>exact V
     |ret=>exact V
  exact a5 N D h g M w a pb j z
 |rangeFunc f ps x y ihx ihy=>
  intro i D h A m h' g;simp [dV]at g
 |exit id=>
  intro i D h A m h' g;simp [dV]at g;obtain⟨rfl,rfl,rfl⟩:=g;intro M w a pb j Q z;exact wp_exit (z a w M pb ⟨j.fr,j.inv,j.glob,Pres.refl _ _ _ _,rfl⟩)
 |scope x ihx=>
  intro i D h A m h' g;simp only [iP]at i;simp only [dV]at g;intro M w a pb j Q z;refine wp_scope_straight ?_;refine ihx i _ _ _ _ _ g M w a pb j _ (λG K O u L=>?_);have V:=z G K O u L
  cases A<;>exact V
 |label l=>
  intro i D h A m h' g;simp [dV]at g
 |goto l=>
  intro i D h A m h' g;simp [dV]at g
 |ret=>
  intro i D h A m h' g;simp [dV]at g;obtain⟨rfl,rfl,rfl⟩:=g;intro M w a pb j Q z;exact wp_ret (z a w M pb ⟨j.fr,j.inv,j.glob,Pres.refl _ _ _ _,rfl⟩)
 |refuse s=>
  intro i D h A m h' g;simp [dV]at g
def b2J(g:Array Value):ResultVar->Sem Value
 | .tmp t=>pure (g.getD t undef)
 | .cell a t=>do loadVar t (<-asAddr (g.getD a undef))
theorem a4D(fn:Func)(g:Array Value):results fn g=(do let vs<-fn.results.mapM (b2J g);pure (if h:vs.size=1 then vs[0]else .tuple vs)):=rfl
theorem Ou{M:Meta}{h:Heap}{w:World}{G:Fr}{a:Act}{pb:Nat->Nat}(l:Sim E B n M h w G a pb): ∀{rs:List ResultVar}{vs:Y14},jT E.P G h rs=some vs->
  ∃rv:List Value,(rs.mapM (b2J a.tmps)).run E.P w= .ok rv w/\cU M vs rv
 | [],vs,hr=>by simp [jT]at hr;subst hr;exact⟨[],rfl,cU.nil M⟩
 |r::rs,vs,hr=>by
  unfold jT at hr;split at hr
  case h_2=>simp at hr
  rename_i v Z h1 h2;simp at hr;subst hr;obtain⟨rv,h3,h4⟩:=Ou l h2;have m: ∃q,(b2J a.tmps r).run E.P w= .ok q w/\VR M v q:=by
   cases r with
   |tmp t=>
    simp only [J2]at h1;exact⟨_,rfl,l.fr.tm t _ (Fi h1)⟩
   |cell ad t=>
    simp only [J2]at h1;split at h1
    .rename_i s j g;split at h1
     case h_2=>simp at h1
     rename_i cs y;have u:a.tmps.getD ad undef= .pointer (some ⟨pb s,j,none⟩):=l.fr.tm ad _ g;obtain⟨_,_,_,rc,el,fz,T,k5,V⟩:=l.fr.loc s cs y;obtain⟨q,z,A⟩:=H5 (P:=E.P) (w:=w) (b:=pb s) (base:=0) V (λi R=>by simp [World.cell?,T,show i<rc.size by simpa using R]) h1;refine⟨q,?_,A⟩;simp only [b2J,u,asAddr,AT,AZ,AL];simpa using z
    .rename_i id j g;split at h1
     case h_2=>simp at h1
     rename_i cs O;have u:VR M (.ptr id j) (a.tmps.getD ad undef):=l.fr.tm ad _ g;generalize hq:a.tmps.getD ad undef=pr at u
     cases u with
     | @ptr _ _ b hl=>
      obtain⟨b',rc,D,l2,l3,X,Y⟩:=l.inv.row O;rw [hl]at D;simp at D;subst D;obtain⟨q,z,A⟩:=H5 (P:=E.P) X Y h1;refine⟨q,?_,A⟩;simp only [b2J,hq,asAddr,AT,AZ,AL];simpa using z
    .simp at h1
  obtain⟨q,K,L⟩:=m;refine⟨q::rv,?_,cU.cons L h4⟩;simp only [JD,AT,K,AL,h3,AZ]
def Eu(rv:List Value):Value:=if h:rv.toArray.size=1 then rv.toArray[0]else .tuple rv.toArray
theorem Gh{M:Meta}{vs:Y14}{rv:List Value}(h2:cU M vs rv):VR M (eF vs) (Eu rv):=by
 unfold Eu
 have g:=h2.1
 cases vs with
 |nil=>
  cases rv with
  |nil=>exact eH h2
  |cons _ _=>simp at g
 |cons v vs'=>
  cases rv with
  |nil=>simp at g
  |cons q rv'=>
   cases vs' with
   |nil=>
    cases rv' with
    |nil=>
     have:=h2.2 0 KB KB;simpa [eF]using this
    |cons _ _=>simp at g
   |cons v2 vs2=>
    cases rv' with
    |nil=>simp at g
    |cons q2 rv2=>
     have: ¬ ((q::q2::rv2).toArray.size=1):=KB;rw [dif_neg this];exact eH h2
theorem a4E{M:Meta}{h:Heap}{w:World}{g:Fr}{a:Act}{pb:Nat->Nat}(j:Sim E B n M h w g a pb){fn:Func}{vs:Y14}(i:jT E.P g h fn.results.toList=some vs):
  ∃rv,(results fn a.tmps).run E.P w= .ok (Eu rv) w/\cU M vs rv:=by
 obtain⟨rv,h1,h2⟩:=Ou j i;have hm:(fn.results.mapM (b2J a.tmps)).run E.P w= .ok rv.toArray w:=by
  rw [HY];simp only [Sem.run_map];rw [h1];rfl
 refine⟨rv,?_,h2⟩;rw [a4D];simp only [AT,hm,AL,AZ];rfl
theorem wE: ∀(g:Y14)(i:Nat)(t:PT TV)(k:Nat),(nG g i t).get k=if i<=k/\k<i+g.length then(g[k-i]?).map .v else t.get k
 | [],i,t,k=>by
  rw [if_neg (by simp only [BL];omega)];rfl
 |v::r,i,t,k=>by
  unfold nG
  rw [wE r (i+1) _ k,PT.get_set]
  by_cases h1:k=i
  .subst h1;rw [if_neg JZ,if_pos rfl,if_pos ⟨AF _,KB⟩];simp
  .by_cases h2:i+1<=k/\k<i+1+r.length
   .rw [if_pos h2,if_pos ⟨JZ,by simp;omega⟩];rw [show k-i=(k- (i+1))+1 by omega];simp
   .rw [if_neg h2,if_neg h1,if_neg (by simp;omega)]
theorem Cr{cf:FuncId->Y14->Heap->Option (IV×Heap)}(O:Uf E cf)(A:vH E cf)(hm:E.P.follows .mixedOrders=true){g:FuncId}{fn:Func}{c:Code}(T:E.P.funcs[g]?=some fn)(z:fn.body=some c)(V:iP fn.ntmps c=true)
  {xs vs:Y14} {h h1:Heap} (hr:iJ E g cf N fn.results.toList c xs h=some (vs,h1)) {M:Meta} {w:World} {rs:List Value} (hI:Inv M h w) (hG:Ue E M) (hrs:cU M xs rs):
  Calls E.P g rs.toArray w λe w'=> ∃rv M',e= .returned (Eu rv)/\cU M' vs rv/\Inv M' h1 w'/\Pres w.heap.size M h w M' h1 w':=by
 have fin: ∀(L:Ex)(y:Fr),(L= .normal\/L= .ret)->dV E g cf N c ⟨nG xs 0 .nil,.nil⟩ h=some (L,y,h1)->jT E.P y h1 fn.results.toList=some vs->
   Calls E.P g rs.toArray w λe w'=> ∃rv M',e= .returned (Eu rv)/\cU M' vs rv/\Inv M' h1 w'/\Pres w.heap.size M h w M' h1 w':=by
  intro L y R i G;refine calls_of_wp T z ?_;have Z:xs.length=rs.length:=hrs.1;have D: ∀t,((rs.toArray++Array.replicate (fn.ntmps-rs.toArray.size) undef).getD t undef)=(rs[t]?).getD undef:=by
   intro t;rw [CX]
   by_cases u:t<rs.length
   .rw [HV (by simpa using u)];simp
   .rw [Array.getElem?_append_right (by simp;omega)];simp only [BP (Nat.le_of_not_lt u),Option.getD_none,IJ];split<;>rfl
  have X:Sim E w.heap.size fn.ntmps M h w ⟨nG xs 0 .nil,.nil⟩ {tmps:=rs.toArray++Array.replicate (fn.ntmps-rs.toArray.size) undef,defers:=[] } (λ_=>0):=by
   refine⟨hG,hI,⟨by simp;omega,λt tv u=>?_,λs cs e=>by simp [Fr.ff,PT.get]at e,λs s' c1 c2 e=>by simp [Fr.ff,PT.get]at e,λk s a0 e=>by
    simp only [Fr.ff,wE]at e;split at e
    .obtain⟨x,_,h2⟩:=AD.1 e;cases h2
    .simp [PT.get]at e⟩,AF _⟩
   simp only [Fr.ff,wE]at u;rw [D];split at u
   .rename_i hb;simp only [IM]at u;obtain⟨x,m,rfl⟩:=AD.1 u;obtain⟨r,j,l⟩:=hrs.get m;rw [j];exact l
   .simp [PT.get]at u
  refine b7B (B:=w.heap.size) O A hm c V _ _ _ _ _ i M w _ _ X _ (λa' w' M' a1 m=>?_);obtain⟨rv,j,l⟩:=a4E (m.sim (AF _)) G;rcases R with rfl|rfl
  .exact⟨m.defers,Eu rv,j,rv,M',rfl,l,m.inv,m.pres⟩
  .exact⟨m.defers,Eu rv,j,rv,M',rfl,l,m.inv,m.pres⟩
 unfold iJ at hr;split at hr
 .rename_i y h' i;obtain⟨q,Y,K⟩:=AD.1 hr;simp only [BX]at K;obtain⟨rfl,rfl⟩:=K;exact fin .normal y (.inl rfl) i Y
 .rename_i y h' i;obtain⟨q,Y,K⟩:=AD.1 hr;simp only [BX]at K;obtain⟨rfl,rfl⟩:=K;exact fin .ret y (.inr rfl) i Y
 .cases hr
theorem b7W{M u:Meta}{h h2:Heap}{w w':World}(a:Inv M h w)(L:Inv u h2 w')(y:Pres w.heap.size M.pure Heap.empty w u h2 w'):
  ∃M3,Inv M3 h w'/\Pres w.heap.size M h w M3 h w'/\(∀b o v,u.im b o=some v->M3.im b o=some v)/\(∀b n,u.bsz b=some n->M3.bsz b=some n):=by
 have hk: ∀b,b<w.heap.size->w'.heap[b]?=w.heap[b]?/\∀o,u.im b o=M.im b o:=λb i=>by
  obtain⟨h1,_,h3⟩:=y.keep b i (by rintro⟨id,e⟩;simp [Wb,Heap.empty,Heap.get,PT.get]at e);exact⟨h1,h3⟩
 let M3:Meta:= {M with im:=λb o=>if b<w.heap.size then M.im b o else u.im b o,bsz:=λb=>match M.bsz b with|some n=>some n|none=>u.bsz b }
 have g: ∀b o,b<w.heap.size->M3.im b o=M.im b o:=λb o i=>if_pos i
 have D:Ext M M3:=⟨AF _,λ_ _ e=>e,λb o v e=>by
  have i:b<w.heap.size:=by
   have:=a.im b o v e;unfold World.cell? at this;rcases BK b w.heap.size with q|q
   .exact q
   .simp [JB q]at this
  rw [g b o i];exact e,λb n e=>by simp [M3,e],λ_ _=>AF _,λ_ _ _=>rfl⟩
 have G: ∀b n,M.bsz b=some n->M3.bsz b=M.bsz b:=λb n e=>by simp [M3,e]
 have j: ∀{b rc},Blk M w b rc->Blk M3 w' b rc:=λl=>l.keep (hk _ l.lt).1 (G _ _ l.bsz)
 refine⟨M3,⟨a.nid,a.fresh,a.freshl,λid cs e=>?_,λid n e=>?_,λid O e=>?_,λb o v e=>?_,λb n e=>?_,a.one,a.resv⟩,⟨D,y.size,y.os,y.tape,y.output,λb i R=>⟨(hk b i).1,R,λo=>g b o i⟩⟩,λb o v e=>?_,λb n e=>?_⟩
 .obtain⟨b,rc,A,r,z,K,V⟩:=a.cells id cs e;exact⟨b,rc,A,j r,z,K.mono D,λo=>by rw [g b o r.lt];exact V o⟩
 .obtain⟨T,b,e',rc,A,r,z,K⟩:=a.tips id n e;exact⟨T,b,e',rc,A,j r,z,λo ho=>by rw [g b o r.lt];exact K o ho⟩
 .obtain⟨b,ents,cl,A,r,z⟩:=a.maps id O e;exact⟨b,ents,cl,A,(hk b (cQ r)).1.trans r,⟨z.1.1.mono D,z.1.2.mono D⟩,z.2⟩
 .simp only [M3]at e;split at e
  .rename_i i;have h1:=a.im b o v e;unfold World.cell? at h1⊢;simp only at h1⊢;rw [(hk b i).1];exact h1
  .exact L.im b o v e
 .simp only [M3]at e;split at e
  .rename_i m hm;have:=a.bsz b m hm;have:=y.size;omega
  .exact L.bsz b n e
 .simp only [M3];split
  .rename_i i;rw [<- (hk b i).2 o];exact e
  .exact e
 .simp only [M3];split
  .rename_i m hm;have:=y.ext.bsz b m hm;rw [this]at e;exact e
  .exact e
theorem b1O{M O A:Meta}{h h2:Heap}{w w':World}(a:Inv M h w)(L:Inv A h2 w')(y:Pres w.heap.size O.pure Heap.empty w A h2 w'):
  ∃M3,Inv M3 h w'/\Pres w.heap.size M h w M3 h w':=by
 have hk: ∀b,b<w.heap.size->w'.heap[b]?=w.heap[b]?/\True:=λb i=>by
  obtain⟨h1,_,h3⟩:=y.keep b i (by rintro⟨id,e⟩;simp [Wb,Heap.empty,Heap.get,PT.get]at e);exact⟨h1,trivial⟩
 let M3:Meta:= {M with im:=λb o=>if b<w.heap.size then M.im b o else A.im b o,bsz:=λb=>match M.bsz b with|some n=>some n|none=>A.bsz b }
 have g: ∀b o,b<w.heap.size->M3.im b o=M.im b o:=λb o i=>if_pos i
 have D:Ext M M3:=⟨AF _,λ_ _ e=>e,λb o v e=>by
  have i:b<w.heap.size:=by
   have:=a.im b o v e;unfold World.cell? at this;rcases BK b w.heap.size with q|q
   .exact q
   .simp [JB q]at this
  rw [g b o i];exact e,λb n e=>by simp [M3,e],λ_ _=>AF _,λ_ _ _=>rfl⟩
 have G: ∀b n,M.bsz b=some n->M3.bsz b=M.bsz b:=λb n e=>by simp [M3,e]
 have j: ∀{b rc},Blk M w b rc->Blk M3 w' b rc:=λl=>l.keep (hk _ l.lt).1 (G _ _ l.bsz)
 refine⟨M3,⟨a.nid,a.fresh,a.freshl,λid cs e=>?_,λid n e=>?_,λid R e=>?_,λb o v e=>?_,λb n e=>?_,a.one,a.resv⟩,⟨D,y.size,y.os,y.tape,y.output,λb i T=>⟨(hk b i).1,T,λo=>g b o i⟩⟩⟩
 .obtain⟨b,rc,z,r,u,K,X⟩:=a.cells id cs e;exact⟨b,rc,z,j r,u,K.mono D,λo=>by rw [g b o r.lt];exact X o⟩
 .obtain⟨V,b,e',rc,z,r,u,K⟩:=a.tips id n e;exact⟨V,b,e',rc,z,j r,u,λo ho=>by rw [g b o r.lt];exact K o ho⟩
 .obtain⟨b,ents,cl,z,r,u⟩:=a.maps id R e;exact⟨b,ents,cl,z,(hk b (cQ r)).1.trans r,⟨u.1.1.mono D,u.1.2.mono D⟩,u.2⟩
 .simp only [M3]at e;split at e
  .rename_i i;have h1:=a.im b o v e;unfold World.cell? at h1⊢;simp only at h1⊢;rw [(hk b i).1];exact h1
  .exact L.im b o v e
 .simp only [M3]at e;split at e
  .rename_i m hm;have:=a.bsz b m hm;have:=y.size;omega
  .exact L.bsz b n e
theorem zC: ∀{xs:Y14},F6 xs=true-> ∀(i:Nat)(a:i<xs.length),Ng xs[i]=true
 | [],_,i,a=>absurd a KB
 |x::xs,h,0,_=>by simp only [F6,AE]at h;exact h.1
 |x::xs,h,i+1,a=>zC (xs:=xs) (by simp only [F6,AE]at h;exact h.2) i (by simpa using a)
theorem c7W{M M':Meta}{v:IV}{r:Value}(h:VR M v r):Ng v=true->VR M' v r:=by
 induction h with
 |bool b=>intro _;exact .bool b
 |int k n=>intro _;exact .int k n
 |str s=>intro _;exact .str s
 |agg rc hn hv hc ih=>intro g;simp only [Ng]at g;exact .agg rc hn (λi a b=>ih i a b (zC g i a)) hc
 |tuple rc hn hv ih=>intro g;simp only [Ng]at g;exact .tuple rc hn (λi a b=>ih i a b (zC g i a))
 |_=>intro g;simp [Ng]at g
theorem b7O{M M':Meta}{xs:Y14}{rs:List Value}(h:cU M xs rs)(g:F6 xs=true):cU M' xs rs:=⟨h.1,λi a b=>c7W (h.2 i a b) (zC g i a)⟩
theorem a6V{M:Meta}{h:Heap}{w:World}(a:Inv M h w):Inv M.pure Heap.empty w where
 nid:=rfl
 fresh:=λid _=>by simp [Heap.empty,Heap.get,PT.get]
 freshl:=λ_ _=>rfl
 cells:=λid cs e=>by simp [Heap.empty,Heap.get,PT.get]at e
 tips:=λid n e=>by simp [Heap.empty,Heap.get,PT.get]at e
 maps:=λid i e=>by simp [Heap.empty,Heap.get,PT.get]at e
 im:=a.im
 bsz:=a.bsz
 one:=λid g b e _=>by simp [Wb,Heap.empty,Heap.get,PT.get]at e
 resv:=λid e=>by simp [Heap.empty,Heap.get,PT.get]at e
theorem Fm(E:Env): ∀N,vH E (jU E N)
 |0=>λg m xs h v h' i=>by simp [jU]at i
 |N+1=>λg m xs h v h' i=>by
  rw [iB]at i;split at i
  case h_2=>simp at i
  rename_i fn l;split at i
  case h_2=>simp at i
  rename_i c j;simp only [m]at i;split at i
  case isFalse=>simp at i
  rename_i r;split at i
  case h_2=>simp at i
  rename_i vs h1 z;obtain⟨A,u,y⟩:=AD.1 i;simp only [BX]at y;obtain⟨rfl,rfl⟩:=y;refine⟨rfl,λh2=>?_⟩;rw [iB];simp only [l,j,m,r,z,u,if_true,DC]
theorem Vi(hm:E.P.follows .mixedOrders=true)(X:X2 E.P=true): ∀N,Uf E (jU E N)
 |0=>λg xs h v h' l=>by simp [jU]at l
 |N+1=>λg xs h v h' l=>by
  have ih:=Vi hm X N;rw [iB]at l;split at l
  case h_2=>simp at l
  rename_i fn u;split at l
  case h_2=>simp at l
  rename_i c j;have r:a1T fn=true:=by
   unfold X2 at X;rw [CF]at X;have:fn∈E.P.funcs.toList:=by
    rw [<-Array.getElem?_toList]at u;exact EM u
   exact X fn this
  unfold a1T at r;rw [j]at r;simp only [AE,BS]at r;refine⟨⟨fn,u,by simp [j],r.2⟩,λM w rs R hG L=>?_⟩;split at l
  .split at l
   .split at l
    case h_2=>simp at l
    rename_i vs h1 T;refine(Cr ih (Fm E N) hm u j r.1 T R hG (a7S (E:=E) (f:=g) (ts:=fn.params.toList) L)).mono λe w'=>?_
    rintro⟨rv,M',h2,h3,h4,z⟩;obtain⟨y,g1,g2,g3⟩:=a1U E g h4 (Gh (a7S (E:=E) (f:=g) (ts:=fn.resultTypes.toList) h3));simp only [AC]at l;rw [l]at g1 g2 g3;exact⟨_,y,h2,g3,g1,z.trans (g2.mono z.size)⟩
   .split at l
    case isFalse=>simp at l
    rename_i K;split at l
    case h_2=>simp at l
    rename_i vs h1 T;obtain⟨v',i,V⟩:=AD.1 l;simp only [BX]at V;obtain⟨rfl,rfl⟩:=V;obtain⟨O,f1,f2,f3,_⟩:=F9 Qs xs M h w rs R L;have m:cU O.pure (dS E.P fn.params.toList (nN mH h xs).1) rs:=Fj (M:=O) (M':=O.pure) (λ_ _ _ e=>e) (λ_ _ e=>e) (sJ f3) K;have D:Ue E O.pure:=λg cs e=>(show VR O.pure.pure (.vref cs 0) _ from(hG.mono f2.ext) g cs e)
    refine(Cr ih (Fm E N) hm u j r.1 T (a6V f1) D m).mono λe w'=>?_
    rintro⟨rv,M',h2,h3,h4,z⟩;obtain⟨Y,d1,d2⟩:=b1O R h4 z;unfold a7I at i;split at i
    case isFalse=>cases i
    rename_i G;simp only [AC]at i;subst i;exact⟨_,Y,h2,Gh (b7O (sJ h3) G),d1,d2⟩
  .split at l
   case isFalse=>simp at l
   rename_i K;split at l
   case h_2=>simp at l
   rename_i vs h1 T;obtain⟨v',i,V⟩:=AD.1 l;simp only [BX]at V;obtain⟨rfl,rfl⟩:=V;have m:cU M.pure (dS E.P fn.params.toList xs) rs:=Fj (M:=M) (M':=M.pure) (λ_ _ _ e=>e) (λ_ _ e=>e) (sJ L) K;have D:Ue E M.pure:=λg cs e=>(show VR M.pure.pure (.vref cs 0) _ from hG g cs e)
   refine(Cr ih (Fm E N) hm u j r.1 T (a6V R) D m).mono λe w'=>?_
   rintro⟨rv,M',h2,h3,h4,z⟩;have a0: ∃y A,Inv y A w'/\Pres w.heap.size M.pure Heap.empty w y A w'/\cU y (Dq E g vs h1) rv:=by
    unfold Dq
    split
    .obtain⟨y,Z,c2,c3,_⟩:=F9 (c8A E g) vs M' h1 w' rv h4 h3;exact⟨y,_,Z,z.trans (c2.mono z.size),c3⟩
    .exact⟨M',h1,h4,z,h3⟩
   obtain⟨y,A,Z,c2,c3⟩:=a0;obtain⟨Y,d1,d2,d3,d4⟩:=b7W R Z c2;unfold Qz at i;simp only at i;split at i
   case isFalse=>cases i
   rename_i G;simp only [AC]at i;subst i;exact⟨_,Y,h2,Gh (Fj d3 d4 (sJ c3) G),d1,d2⟩
end
section
variable {E:Env} {f:FuncId} {cf cf':FuncId->Y14->Heap->Option (IV×Heap)} {ops:List Oper} {draw:Bool} {bef:Nat->Nat}
def Ug(cf cf':FuncId->Y14->Heap->Option (IV×Heap)):Prop:= ∀g xs h r,cf g xs h=some r->cf' g xs h=some r
theorem Mv(i:Ug cf cf'){o:Oper}{ev:Operand->Option TV}{lv:Nat->Option (Y14)}{h:Heap}{e:Ef}(g:eJ E f cf draw o ev lv h=some e):eJ E f cf' draw o ev lv h=some e:=by
 unfold eJ at g⊢
 cases hp:eQ E f o ev with
 |some q=>simp only [hp]at g⊢;exact g
 |none=>
 simp only [hp]at g⊢
 cases hl:gI E o ev lv with
 |some q=>simp only [hl]at g⊢;exact g
 |none=>
 simp only [hl]at g⊢
 cases hs:iX E o ev lv with
 |some q=>simp only [hs]at g⊢;exact g
 |none=>
 simp only [hs]at g⊢
 cases hr:dR E o ev h with
 |some q=>simp only [hr]at g⊢;exact g
 |none=>
 simp only [hr]at g⊢
 cases hee:iM E f o ev h with
 |some q=>simp only [hee]at g⊢;exact g
 |none=>
 simp only [hee]at g⊢
 cases hcl:dI o ev with
 |none=>simp only [hcl]at g;cases g
 |some q=>
 simp only [hcl]at g⊢
 cases hcf:cf q.1 q.2 h with
 |none=>simp only [hcf]at g;cases g
 |some r=>simp only [hcf,i _ _ _ _ hcf]at g⊢;exact g
theorem b7G(j:Ug cf cf'){o:Oper}{i:Nat->Option TV}{lv:Nat->Option (Y14)}{h:Heap}{e:Ef}(g:C4 E f cf ops draw o i lv h=some e):C4 E f cf' ops draw o i lv h=some e:=by
 unfold C4 at g⊢;split at g
 .cases g
 .exact g
 .exact Mv j g
theorem Mu(j:Ug cf cf'){rs:Y10}{o:Oper}{i:Nat->Option TV}{lv:Nat->Option (Y14)}{h:Heap}{e:Ef}(g:dJ E f cf ops draw rs o i lv h=some e):dJ E f cf' ops draw rs o i lv h=some e:=by
 cases rs with
 |none=>exact b7G j g
 |some n=>exact g
theorem wP(z:Ug cf cf'){y:List Nat}{rs:Nat->Y10} : ∀{l:List (Oper×Nat)}{m:Met}{u:Pd}{g:Fr}{h:Heap}{r:Fr×Heap},pN E f cf ops draw bef y rs l m u g h=some r->pN E f cf' ops draw bef y rs l m u g h=some r
 | [],_,_,_,_,_,he=>he
 | (o,i)::l,m,u,g,h,r,he=>by
  unfold pN at he⊢;split at he
  .rename_i e j;simp only [Mu z j];split at he
   .rename_i A;rw [if_pos A];exact wP z he
   .cases he
  .cases he
theorem uV{i g:Fr->Heap->Option (Ex×Fr×Heap)}(u: ∀j h r,i j h=some r->g j h=some r): ∀{n m:Nat}{j:Fr}{h:Heap}{r:Ex×Fr×Heap},n<=m->lQ i n j h=some r->lQ g m j h=some r
 |0,_,_,_,_,_,he=>by simp [lQ]at he
 |n+1,0,_,_,_,hn,_=>JZ
 |n+1,m+1,j,h,r,hn,he=>by
  unfold lQ at he⊢;split at he
  .rename_i l h' y;simp only [u _ _ _ y];exact uV u (GV hn) he
  .rename_i A;rw [u _ _ _ he];split
   .rename_i l h' z
    cases z
    exact absurd he (A _ _)
   .rfl
theorem zI(A:Ug cf cf'){n m:Nat}(D:n<=m): ∀{c:Code}{i:Fr}{h:Heap}{r:Ex×Fr×Heap},dV E f cf n c i h=some r->dV E f cf' m c i h=some r:=by
 intro c
 induction c with
 |region id ops draw=>
  intro i h r g;simp only [dV]at g⊢;split at g
  .rename_i j h' ho;simp only [wP A ho];exact g
  .cases g
 |seq a b iha ihb=>
  intro i h r g;simp only [dV]at g⊢;split at g
  .rename_i j h' y;simp only [iha y];exact ihb g
  .rename_i u;rw [iha g];split
   .rename_i j h' l
    cases l
    exact absurd g (u _ _)
   .rfl
 |cond c a b iha ihb=>
  intro i h r g;simp only [dV]at g⊢;split at g
  .exact iha g
  .exact ihb g
  .cases g
 |block id c ih=>
  intro i h r g;simp only [dV]at g⊢;split at g
  .rename_i z j h' y;simp only [ih y];exact g
  .rename_i u;rw [ih g];split
   .rename_i z j h' l
    cases l
    exact absurd g (u _ _ _)
   .rfl
 |loop c ih=>
  intro i h r g;simp only [dV]at g⊢;exact uV (λ_ _ _ q=>ih q) D g
 |scope c ih=>
  intro i h r g;simp only [dV]at g⊢;exact ih g
 |_=>intro i h r g;first|exact g| (simp only [dV]at g⊢;exact g)
theorem uA(j:Ug cf cf'){n m:Nat}(l:n<=m){rs:List ResultVar}{c:Code}{h:Heap}{r:Y14×Heap}(g:iJ E f cf n rs c d h=some r):iJ E f cf' m rs c d h=some r:=by
 unfold iJ at g⊢;split at g
 .rename_i u h' i;simp only [zI j l i];exact g
 .rename_i u h' i;simp only [zI j l i];exact g
 .cases g
theorem sK{E:Env} : ∀{n m:Nat},n<=m->Ug (jU E n) (jU E m)
 |0,_,_=>λg xs h r i=>by simp [jU]at i
 |n+1,0,hn=>JZ
 |n+1,m+1,hn=>λg xs h r i=>by
  have y:=sK (E:=E) (GV hn);have j:=GV hn;rw [iB]at i⊢;split at i
  .rename_i fn hf;split at i
   .rename_i c z;split at i
    .split at i
     .split at i
      .rename_i vs h' l;simp only [uA y j l];exact i
      .cases i
     .split at i
      .rename_i u;rw [if_pos u];split at i
       .rename_i vs h' l;simp only [uA y j l];exact i
       .cases i
      .cases i
    .split at i
     .rename_i u;rw [if_pos u];split at i
      .rename_i vs h' l;simp only [uA y j l];exact i
      .cases i
     .cases i
   .cases i
  .cases i
def FF.forget(F:FF):List Nat->FF
 | []=>F
 |s::r=>FF.forget {tm:=(F.clr s).tm,lv:=λk=>if k=s then none else F.lv k } r
def FF.start(E:Env)(f:FuncId)(ops:List Oper)(draw:Bool)(F:FF):FF:=if draw then F.forget (ops.filterMap (a3R E f))else F
theorem Nb: ∀(l:List Nat)(g:Fr),(g.forget l).ff=g.ff.forget l
 | [],_=>rfl
 |s::r,g=>by
  unfold Fr.forget FF.forget
  rw [Nb r]
  congr 1
  simp only [Fr.ff,FF.clr]
  congr 1
  .funext k;rw [PT.get_filt];cases g.tm.get k<;>rfl
  .funext k;rw [PT.get_set]
theorem b7N(g:Fr)(ops:List Oper)(draw:Bool):(g.start E f ops draw).ff=g.ff.start E f ops draw:=by
 unfold Fr.start FF.start
 split
 .exact Nb _ _
 .rfl
end
def aM(E:Env)(g:FuncId)(xs:Y14)(h:Heap)(Q:IV->Heap->Prop):Prop:= ∃n v h',jU E n g xs h=some (v,h')/\Q v h'
abbrev Ps:=List (Nat×(Heap->Prop))
def Pok:Pd->Ps->Prop
 | [],[]=>True
 |p::r,q::s=>(p.1=q.1/\∀h2,q.2 h2->p.2 h2=true)/\Pok r s
 |_,_=>False
def a9M(ps:Ps)(b:Nat)(h:Heap):Prop:= ∀q∈ps,b.testBit q.1=true\/q.2 h
theorem Pok.all: ∀{g:Pd}{ps:Ps}{b:Nat}{h:Heap},Pok g ps->a9M ps b h->g.all (λp=>b.testBit p.1||p.2 h)=true
 | [],[],_,_,_,_=>rfl
 |p::r,q::s,b,h,hp,hw=>by
  rw [EZ,AE,CL];refine⟨?_,Pok.all hp.2 λx i=>hw x (CC _ i)⟩;rw [hp.1.1];rcases hw q BG with z|z
  .exact .inl z
  .exact .inr (hp.1.2 h z)
 | [],_::_,_,_,hp,_=>hp.elim
 |_::_,[],_,_,hp,_=>hp.elim
def Cl(E:Env)(f:FuncId)(ops:List Oper)(draw:Bool)(bef:Nat->Nat)(j:List Nat)(rs:Nat->Y10)(l:List (Oper×Nat))(m:Met)(ps:Ps)(F:FF)(h:Heap)(Q:FF->Heap->Prop):Prop:=
 ∀(g:Fr)(i:Pd),Pok i ps->g.ff=F-> ∃n fr' h',pN E f (jU E n) ops draw bef j rs l m i g h=some (fr',h')/\Q fr'.ff h'
def bS(E:Env)(f:FuncId)(c:Code)(F:FF)(h:Heap)(Q:Ex->FF->Heap->Prop):Prop:=
 ∀fr:Fr,fr.ff=F-> ∃n x fr' h',dV E f (jU E n) n c fr h=some (x,fr',h')/\Q x fr'.ff h'
section
variable {E:Env} {f:FuncId}
theorem bS.mono{c:Code}{F:FF}{h:Heap}{Q R:Ex->FF->Heap->Prop}(a:bS E f c F h Q)(j: ∀x F' h',Q x F' h'->R x F' h'):bS E f c F h R:=λi hf=>by
 obtain⟨n,x,g,h',h1,h2⟩:=a i hf;exact⟨n,x,g,h',h1,j _ _ _ h2⟩
theorem bS.up{c:Code}{g:Fr}{h:Heap}{n m:Nat}(i:n<=m){r:Ex×Fr×Heap}(h1:dV E f (jU E n) n c g h=some r):dV E f (jU E m) m c g h=some r:=
 zI (sK i) i h1
theorem bS.skip{F:FF}{h:Heap}{Q:Ex->FF->Heap->Prop}(g:Q .normal F h):bS E f .skip F h Q:=λi hf=>⟨0,_,_,_,rfl,by rw [hf];exact g⟩
theorem bS.exit{id:Nat}{F:FF}{h:Heap}{Q:Ex->FF->Heap->Prop}(g:Q (.exit id) F h):bS E f (.exit id) F h Q:=λi hf=>⟨0,_,_,_,rfl,by rw [hf];exact g⟩
theorem bS.ret{F:FF}{h:Heap}{Q:Ex->FF->Heap->Prop}(g:Q .ret F h):bS E f .ret F h Q:=λi hf=>⟨0,_,_,_,rfl,by rw [hf];exact g⟩
theorem bS.seq{a b:Code}{F:FF}{h:Heap}{Q:Ex->FF->Heap->Prop}(u:bS E f a F h λx l h'=>match x with| .normal=>bS E f b l h' Q|x=>Q x l h'):bS E f (.seq a b) F h Q:=λr hf=>by
 obtain⟨n,x,g,h1,r1,j⟩:=u r hf
 cases x with
 |normal=>
  obtain⟨m,y,i,h2,A,z⟩:=j g rfl;refine⟨max n m,y,i,h2,?_,z⟩;simp only [dV,bS.up (IY n m) r1];exact bS.up (GY n m) A
 |exit id=>exact⟨n,_,g,h1,by simp only [dV,r1],j⟩
 |ret=>exact⟨n,_,g,h1,by simp only [dV,r1],j⟩
theorem bS.cond{x:Operand}{b:Bool}{c d:Code}{F:FF}{h:Heap}{Q:Ex->FF->Heap->Prop}(r:bC E F.tm x=some (.v (.bool b)))(m:b=true->bS E f c F h Q)(hd:b=false->bS E f d F h Q):
  bS E f (.cond x c d) F h Q:=λj hf=>by
 have i:bC E j.tm.get x=some (.v (.bool b)):=by rw [<-r,<-hf];rfl
 cases b with
 |true=>
  obtain⟨n,y,g,h1,r1,l⟩:=m rfl j hf;exact⟨n,y,g,h1,by simp only [dV,i,r1],l⟩
 |false=>
  obtain⟨n,y,g,h1,r1,l⟩:=hd rfl j hf;exact⟨n,y,g,h1,by simp only [dV,i,r1],l⟩
theorem bS.block{id:Nat}{c:Code}{F:FF}{h:Heap}{Q:Ex->FF->Heap->Prop}(m:bS E f c F h λx j h'=>match x with| .exit id'=>if id'=id then Q .normal j h' else Q (.exit id') j h'|x=>Q x j h'):bS E f (.block id c) F h Q:=λl hf=>by
 obtain⟨n,x,g,h1,r1,i⟩:=m l hf
 cases x with
 |normal=>exact⟨n,_,g,h1,by simp only [dV,r1],i⟩
 |ret=>exact⟨n,_,g,h1,by simp only [dV,r1],i⟩
 |exit id'=>
  simp only at i
  by_cases hid:id'=id
  .rw [if_pos hid]at i;exact⟨n,.normal,g,h1,by simp only [dV,r1,if_pos hid],i⟩
  .rw [if_neg hid]at i;exact⟨n,.exit id',g,h1,by simp only [dV,r1,if_neg hid],i⟩
theorem bS.scope{c:Code}{F:FF}{h:Heap}{Q:Ex->FF->Heap->Prop}(j:bS E f c F h Q):bS E f (.scope c) F h Q:=λi hf=>by
 obtain⟨n,x,g,h1,r1,l⟩:=j i hf;exact⟨n,x,g,h1,by simp only [dV,r1],l⟩
theorem bS.loop{c:Code}{F:FF}{h:Heap}{Q:Ex->FF->Heap->Prop}(G:bS E f c F h λx u h'=>match x with| .normal=>bS E f (.loop c) u h' Q|x=>Q x u h'):bS E f (.loop c) F h Q:=λz hf=>by
 obtain⟨n,x,i,h1,r1,r⟩:=G z hf;have j: ∀(y:Ex)(g:Fr)(h2:Heap)(k:Nat),n<=k->(∀l h',(some (x,i,h1):Option (Ex×Fr×Heap))=some (.normal,l,h')->lQ (dV E f (jU E (k+1)) (k+1) c) k l h'=some (y,g,h2))->(x≠ .normal->y=x/\g=i/\h2=h1)->
   dV E f (jU E (k+1)) (k+1) (.loop c) z h=some (y,g,h2):=by
  intro y g h2 k hk K A;simp only [dV];unfold lQ
  rw [bS.up (HW hk) r1]
  cases x with
  |normal=>exact K _ _ rfl
  |exit id=>obtain⟨rfl,rfl,rfl⟩:=A KB;rfl
  |ret=>obtain⟨rfl,rfl,rfl⟩:=A KB;rfl
 cases x with
 |normal=>
  obtain⟨m,y,g,h2,D,L⟩:=r i rfl;refine⟨max n m+1,y,g,h2,j y g h2 _ (IY n m) (λl h' e=>?_) (λe=>absurd rfl e),L⟩
  cases e
  simp only [dV]at D;have hm:m<=max n m+1:=HW (GY n m);exact uV (λ_ _ _ q=>zI (sK hm) hm q) (GY n m) D
 |exit id=>exact⟨n+1,_,i,h1,j _ _ _ n (AF n) (λ_ _ e=>by cases e) (λ_=>⟨rfl,rfl,rfl⟩),r⟩
 |ret=>exact⟨n+1,_,i,h1,j _ _ _ n (AF n) (λ_ _ e=>by cases e) (λ_=>⟨rfl,rfl,rfl⟩),r⟩
theorem bS.region{id:Nat}{ops:Array Oper}{draw:Bool}{F:FF}{h:Heap}{Q:Ex->FF->Heap->Prop}(l:Cl E f ops.toList draw (Co ops) (E.an f id) (a4F h.next (E.an f id)) (X1 (E.od f id) draw ops.toList) {} [] (F.start E f ops.toList draw) (h.reserve (E.an f id).length) λi h'=>Q .normal i h'):bS E f (.region id ops draw) F h Q:=λj hf=>by
 obtain⟨n,g,h1,r1,m⟩:=l (j.start E f ops.toList draw) [] trivial (by rw [b7N,hf]);exact⟨n,_,g,h1,by simp only [dV,r1],m⟩
theorem Cl.nil{ops:List Oper}{draw:Bool}{bef:Nat->Nat}{g:List Nat}{rs:Nat->Y10}{m:Met}{ps:Ps}{F:FF}{h:Heap}{Q:FF->Heap->Prop}(j:Q F h):Cl E f ops draw bef g rs [] m ps F h Q:=λi r l hf=>⟨0,i,h,rfl,by rw [hf];exact j⟩
def fO(h:Heap)(id k:Nat):Option IV:=match h.get id with
 | .cells cs=>cs[k]?
 |_=>none
def Su(h h2:Heap)(id k:Nat):Prop:=fO h2 id k=fO h id k
def psQ(E:Env)(o:Oper)(ev:Operand->Option TV)(h h2:Heap):Prop:=match o.op with
 | .load t a=>match ev a with
  |some (.v (.ptr id off))=>match iL E.P t with
   |some (false,_)=>Su h h2 id off
   |_=>pO h h2 (some id)
  |_=>True
 |_=>pO h h2 (mL o ev)
theorem e2A{E:Env}{o:Oper}{ev:Operand->Option TV}{h h2:Heap}{v:TV}(i:dR E o ev h=some v)(g:psQ E o ev h h2):dR E o ev h2=some v:=by
 unfold psQ at g;split at g
 .rename_i t a j;split at g
  .rename_i id A r;split at g
   .rename_i n m;unfold dR at i⊢;simp only [j,r]at i⊢;unfold Su fO at g;split at i
    .rename_i cs u;rw [u]at g;simp only [eM,m]at i⊢;obtain⟨w,z,rfl⟩:=AD.1 i;simp only at g;rw [z]at g;split at g
     .rename_i D l;simp only [l,g,DC]
     .cases g
    .cases i
   .refine X4 i ?_;unfold mL
    simp only [j,r];exact g
  .rename_i y;unfold dR at i;simp only [j]at i
   cases i
 .exact X4 i g
def Oo(E:Env)(o:Oper)(ev:Operand->Option TV)(e:Ef)(i:Nat)(ps:Ps):Ps:=match e.c with
 | .r=>(i,λh2=>psQ E o ev e.h h2)::ps
 |_=>ps
theorem b0X{cf:FuncId->Y14->Heap->Option (IV×Heap)}{draw:Bool}{o:Oper}{ev:Operand->Option TV}{lv:Nat->Option (Y14)}{h:Heap}{e:Ef}(i:eJ E f cf draw o ev lv h=some e)(j:e.c= .r):
  e.h=h/\∃v,dR E o ev h=some v/\e.v=some v:=by
 unfold eJ at i;split at i
 .repeat' split at i
  all_goals first
   | (cases i;done)
   | (cases i;cases j)
 .split at i
  .cases i;cases j
  .split at i
   .cases i;cases j
   .split at i
    .rename_i v l
     cases i
     exact⟨rfl,v,l,rfl⟩
    .split at i
     .cases i;cases j
     .split at i
      .split at i
       .cases i
        rename_i g xs _ _ _ _ _;simp only [rL]at j;split at j<;>cases j
       .cases i
      .cases i
theorem Pok.add{cf:FuncId->Y14->Heap->Option (IV×Heap)}{draw:Bool}{ops:List Oper}{rs:Y10}{o:Oper}{j:Nat->Option TV}{lv:Nat->Option (Y14)}{h:Heap}{e:Ef}{i:Nat}{m:Pd}{ps:Ps}(g:dJ E f cf ops draw rs o j lv h=some e)(y:Pok m ps):
  Pok (pL E o (bC E j) e i m) (Oo E o (bC E j) e i ps):=by
 by_cases hc:e.c= .r
 .unfold pL Oo
  rw [hc];refine⟨⟨rfl,λh2 z=>?_⟩,y⟩
  cases rs with
  |some n=>
   exfalso;rcases V0 g with rfl| ⟨v,ha,rfl⟩| ⟨v,x,ha,_,rfl⟩<;>cases hc
  |none=>
  have g:C4 E f cf ops draw o j lv h=some e:=g;unfold C4 at g;split at g
  .cases g
  .cases g;cases hc
  .obtain⟨u,v,l,A⟩:=b0X g hc;rw [u]at z;have D:=e2A l z;obtain⟨x,rfl⟩:=c3D l;simp only [D,A,d1H];exact V4 x
 .have u:pL E o (bC E j) e i m=m:=by
   unfold pL
   split
   .rename_i h;exact absurd h hc
   .rfl
  have l:Oo E o (bC E j) e i ps=ps:=by
   unfold Oo
   split
   .rename_i h;exact absurd h hc
   .rfl
  rw [u,l];exact y
theorem Cl.cons{ops:List Oper}{draw:Bool}{bef:Nat->Nat}{r:List Nat}{rs:Nat->Y10}{o:Oper}{i:Nat}{l:List (Oper×Nat)}{m:Met}{ps:Ps}{F:FF}{h:Heap}{Q:FF->Heap->Prop}
  (he: ∃n e,dJ E f (jU E n) ops draw (rs i) o F.tm F.lv h=some e/\(draw=false\/ ((lS (m.chk e.c) (bef i)=true\/e.c= .e/\lS (m.e|||m.a) (bef i)=true/\a9M ps (bef i) e.h)/\Sr r rs m (bef i) (mL o (bC E F.tm)) e.c=true))/\Cl E f ops draw bef r rs l (m.add e.c i) (Oo E o (bC E F.tm) e i ps) (F.app o.dst e) e.h Q):
  Cl E f ops draw bef r rs ((o,i)::l) m ps F h Q:=λg D A hf=>by
 obtain⟨n,e,h1,h2,h3⟩:=he;have j:dJ E f (jU E n) ops draw (rs i) o g.tm.get g.lv.get h=some e:=by rw [<-h1,<-hf];rfl
 have hev:bC E F.tm=bC E g.tm.get:=by rw [<-hf];rfl
 rw [hev]at h2 h3;obtain⟨k,u,h',h4,G⟩:=h3 (g.app o.dst e) (pL E o (bC E g.tm.get) e i D) (Pok.add j A) (by rw [b7M,hf]);refine⟨max n k,u,h',?_,G⟩;unfold pN
 have y:(!draw||okB r rs m D (bef i) (mL o (bC E g.tm.get)) e)=true:=by
  rw [CL];rcases h2 with z| ⟨z,R⟩
  .exact .inl (by rw [z];rfl)
  .refine .inr ?_;unfold okB
   rw [AE,CL];refine⟨?_,R⟩;rcases z with z| ⟨K,L,O⟩
   .exact .inl z
   .refine .inr ?_;unfold a4V
    simp only [K,L,BD];exact Pok.all A O
 simp only [Mu (sK (IY n k)) j,y,if_true];exact wP (sK (GY n k)) h4
end
structure GF where
 tm:PT (Option TV)
 lv:PT (Option (Y14))
 b:FF
def FF.none:FF:=⟨λ_=>Option.none,λ_=>Option.none⟩
def GF.tmg(F:GF)(k:Nat):Option TV:=match F.tm.get k with
 |some x=>x
 |none=>F.b.tm k
def GF.lvg(F:GF)(k:Nat):Option (Y14):=match F.lv.get k with
 |some x=>x
 |none=>F.b.lv k
def GF.ff(F:GF):FF:=⟨F.tmg,F.lvg⟩
def GF.put(F:GF)(d:Option Tmp)(v:Option TV):GF:=match d with
 |some t=> {F with tm:=F.tm.set t (some v) }
 |none=>F
def GF.lset(F:GF)(s:Nat)(cs:Option (Y14)):GF:= {F with lv:=F.lv.set s (some cs) }
def a7D(s:Nat):Option TV->Option TV
 |some y=>if wL s y then some y else none
 |none=>none
def PT.mapv{α:Type}(g:α->α):PT α->PT α
 | .nil=> .nil
 | .node l v r=> .node (l.mapv g) (match v with|some x=>some (g x)|none=>none) (r.mapv g)
def GF.clr(F:GF)(s:Nat):GF:= {F with tm:=F.tm.mapv (a7D s),b:=F.b.clr s }
def GF.app(F:GF)(d:Option Tmp)(e:Ef):GF:=match e.loc with
 |some (s,cs)=>match e.box with
  |true=>((F.clr s).lset s (some cs)).put d e.v
  |false=>(F.put d e.v).lset s (some cs)
 |none=>F.put d e.v
def GF.forget(F:GF):List Nat->GF
 | []=>F
 |s::r=>GF.forget ((F.clr s).lset s none) r
def GF.start(E:Env)(f:FuncId)(ops:List Oper)(draw:Bool)(F:GF):GF:=match draw with
 |true=>F.forget (ops.filterMap (a3R E f))
 |false=>F
structure Sp where
 br:Bool->Prop->Prop->Prop
 need:Bool->Prop->Prop
 ldI:IntKind->Y14->Nat->(Int->Prop)->Prop
 ldB:Y14->Nat->(Bool->Prop)->Prop
 ldS:Y14->Nat->(Y11->Prop)->Prop
 ldV:Nat->Y14->Nat->(Y10->Nat->Nat->Y14->Prop)->Prop
 ldA:Y14->Nat->(IV->Prop)->Prop
 chr:Y11->Nat->(Int->Prop)->Prop
 hget:Heap->Nat->(Y14->Prop)->Prop
 tip:Heap->Nat->(Nat->Prop)->Prop
 call:FuncId->Y14->Heap->(IV->Heap->Prop)->Prop
 ldNV:Nat->Y14->Nat->Prop->(Nat->Nat->Nat->Y14->Prop)->Prop
 ldNH:Nat->Y14->Nat->Prop->(Nat->Nat->Nat->Prop)->Prop
 mlook:Heap->Nat->TypeDesc->IV->(Y14->Prop)->Prop->Prop
 mupd:Heap->Nat->TypeDesc->IV->IV->(List (IV×IV)->Prop)->Prop
 byt:Y14->(Y11->Prop)->Prop
 ldM:Y14->Nat->(Nat->Prop)->Prop
 ldP:Y14->Nat->(Nat->Nat->Prop)->Prop
 app:Heap->Nat->Nat->IV->Nat->Y14->(Nat->Nat->Nat->Y14->Heap->Prop)->Prop
 fre:Heap->Nat->Prop->Prop
 ent:Heap->Nat->TypeDesc->IV->IV->(IV->Nat->List (IV×IV)->Prop)->Prop
 mput:Heap->Nat->Int->IV->(List (IV×IV)->Prop)->Prop
 ldNM:Y14->Nat->Prop->(Nat->Prop)->Prop
 ldG:Nat->Y14->Nat->(Y14->Prop)->Prop
def aK(b:Bool)(A B:Prop):Prop:=match b with
 |true=>A
 |false=>B
def aF(b:Bool)(A:Prop):Prop:=match b with
 |true=>A
 |false=>False
def aN(k:IntKind)(cs:Y14)(g:Nat)(K:Int->Prop):Prop:=match cs[g]? with
 |some (.int k' n)=>if k'=k then K n else False
 |_=>False
def kQ(cs:Y14)(g:Nat)(K:Bool->Prop):Prop:=match cs[g]? with
 |some (.bool b)=>K b
 |_=>False
def dU(cs:Y14)(g:Nat)(K:Y11->Prop):Prop:=match cs[g]? with
 |some (.str b)=>K b
 |_=>False
def bM(sz:Nat)(cs:Y14)(g:Nat)(K:Y10->Nat->Nat->Y14->Prop):Prop:=match cs[g]? with
 |some (.vslice id e len z cs')=>if z=sz then K id e len cs' else False
 |_=>False
def a3K(cs:Y14)(g:Nat)(K:IV->Prop):Prop:=match cs[g]? with
 |some v=>K v
 |none=>False
def b7A(s:Y11)(i:Nat)(K:Int->Prop):Prop:=match s[i]? with
 |some b=>K b.toNat
 |none=>False
def aT(h:Heap)(id:Nat)(K:Y14->Prop):Prop:=match h.get id with
 | .cells cs=>K cs
 |_=>False
def lL(h:Heap)(id:Nat)(K:Nat->Prop):Prop:=match h.get id with
 | .tip m=>K m
 |_=>False
def H0(sz:Nat)(cs:Y14)(g:Nat)(A:Prop)(K:Nat->Nat->Nat->Y14->Prop):Prop:=match cs[g]? with
 |some .nilslice=>A
 |some (.vslice (some id) e len z cs')=>if z=sz then K id e len cs' else False
 |_=>False
def jR(sz:Nat)(cs:Y14)(g:Nat)(A:Prop)(K:Nat->Nat->Nat->Prop):Prop:=match cs[g]? with
 |some .nilslice=>A
 |some (.hslice id o len z)=>if z=sz then K id o len else False
 |_=>False
def kW(h:Heap)(id:Nat)(d:TypeDesc)(g:IV)(K:Y14->Prop)(A:Prop):Prop:=match h.get id with
 | .map es=>match iG d g es with
  |some (some v)=>K [v]
  |some none=>A
  |none=>False
 |_=>False
def wK(h:Heap)(id:Nat)(d:TypeDesc)(g v:IV)(K:List (IV×IV)->Prop):Prop:=match h.get id with
 | .map es=>match sO d g v es with
  |some es'=>K es'
  |none=>False
 |_=>False
def e7P(cs:Y14)(K:Y11->Prop):Prop:=match oN cs with
 |some b=>K b
 |none=>False
def Bd(cs:Y14)(g:Nat)(K:Nat->Prop):Prop:=match cs[g]? with
 |some (.map id)=>K id
 |_=>False
def e8G(cs:Y14)(g:Nat)(K:Nat->Nat->Prop):Prop:=match cs[g]? with
 |some (.ptr id o)=>K id o
 |_=>False
def dX(h:Heap)(sz bytes:Nat)(s:IV)(n:Nat)(xs:Y14)(K:Nat->Nat->Nat->Y14->Heap->Prop):Prop:=match s with
 | .nilslice=>n*bytes<=140737488355328/\K h.next (n*sz) n xs (h.push (.tip (n*sz)))
 | .vslice none 1 len z cs=>(z=sz/\(len+n)*bytes<=140737488355328)/\K h.next ((len+n)*sz) (len+n) (cs++xs) (h.push (.tip ((len+n)*sz)))
 | .vslice (some id) e len z cs=>(z=sz/\(len+n)*bytes<=140737488355328/\h.get id= .tip e)/\K id (e+n*sz) (len+n) (cs++xs) (h.set id (.tip (e+n*sz)))
 |_=>False
def Qr(h:Heap)(n:Nat)(A:Prop):Prop:=match h.get n with
 | .free=>A
 |_=>False
def b0Z(h:Heap)(id:Nat)(d:TypeDesc)(g z:IV)(K:IV->Nat->List (IV×IV)->Prop):Prop:=match h.get id with
 | .map es=>match Mx d g z es with
  |some r=>K r.1 r.2.1 r.2.2
  |none=>False
 |_=>False
def Sd(n:Nat)(cs:Y14)(g:Nat)(K:Y14->Prop):Prop:=match cs[g]? with
 |some (.agg xs)=>match Nat.beq xs.length n with
  |true=>K xs
  |false=>False
 |_=>False
def Eo(cs:Y14)(g:Nat)(A:Prop)(K:Nat->Prop):Prop:=match cs[g]? with
 |some .nilmap=>A
 |some (.map id)=>K id
 |_=>False
def Nt(h:Heap)(id:Nat)(n:Int)(v:IV)(K:List (IV×IV)->Prop):Prop:=match h.get id with
 | .map es=>(0<=n/\n<es.length)/\K (rA v n.toNat es)
 |_=>False
def aU(C:FuncId->Y14->Heap->(IV->Heap->Prop)->Prop):Sp where
 br:=aK
 need:=aF
 ldI:=aN
 ldB:=kQ
 ldS:=dU
 ldV:=bM
 ldA:=a3K
 chr:=b7A
 hget:=aT
 tip:=lL
 call:=C
 ldNV:=H0
 ldNH:=jR
 mlook:=kW
 mupd:=wK
 byt:=e7P
 ldM:=Bd
 ldP:=e8G
 app:=dX
 fre:=Qr
 ent:=b0Z
 mput:=Nt
 ldNM:=Eo
 ldG:=Sd
structure Inv1 where
 X:Type
 slots:X->List (Nat×TV)
 locs:X->List (Nat×Y14)
 hp:X->Heap
 cond:X->Prop
 meas:X->Nat
 get:GF->Heap->Option X
def Yh:List (Nat×TV)->PT (Option TV)
 | []=> .nil
 | (s,v)::r=>(Yh r).set s (some (some v))
def Wk:List (Nat×Y14)->PT (Option (Y14))
 | []=> .nil
 | (s,v)::r=>(Wk r).set s (some (some v))
def B9(F:GF):List (Nat×TV)->Prop->Prop
 | [],A=>A
 | (s,v)::r,A=>F.tmg s=some v/\B9 F r A
def B8(F:GF):List (Nat×Y14)->Prop->Prop
 | [],A=>A
 | (s,v)::r,A=>F.lvg s=some v/\B8 F r A
inductive Inv' where
 |one (v:Inv1)
 |ex (v:Inv1)
 |or (a b:Inv')
def Inv'.J:Inv'->GF->Heap->(Nat->Prop)->Prop
 | .one v,F,h,P=>match v.get F h with
  |some x=>B9 F (v.slots x) (B8 F (v.locs x) (h=v.hp x/\v.cond x/\P (v.meas x)))
  |none=>False
 | .ex v,F,h,P=> ∃x:v.X,B9 F (v.slots x) (B8 F (v.locs x) (h=v.hp x/\v.cond x/\P (v.meas x)))
 | .or a b,F,h,P=>a.J F h P\/b.J F h P
def Inv'.I:Inv'->(GF->Heap->Nat->Prop)->Prop
 | .one v,K=> ∀(x:v.X)(b:FF),v.cond x->K ⟨Yh (v.slots x),Wk (v.locs x),b⟩ (v.hp x) (v.meas x)
 | .ex v,K=> ∀(x:v.X)(b:FF),v.cond x->K ⟨Yh (v.slots x),Wk (v.locs x),b⟩ (v.hp x) (v.meas x)
 | .or a b,K=>a.I K/\b.I K
section
variable (S:Sp) (E:Env) (f:FuncId)
def ldC(i:CK)(cs:Y14)(g:Nat)(K:IV->Prop):Prop:=match i with
 | .int k=>S.ldI k cs g λn=>K (.int k n)
 | .bool=>S.ldB cs g λb=>K (.bool b)
 | .str=>S.ldS cs g λs=>K (.str s)
 | .slc sz=>S.ldV sz cs g λid e len c=>K (.vslice id e len sz c)
 | .any=>S.ldA cs g K
def a3L:List CK->Y14->Nat->(Y14->Prop)->Prop
 | [],_,_,K=>K []
 |ck::r,cs,off,K=>ldC S ck cs off λv=>a3L r cs (off+1) λvs=>K (v::vs)
def ldK(t:TypeId)(cs:Y14)(g:Nat)(K:IV->Prop):Prop:=match iL E.P t with
 |some (false,_)=>ldC S (Qk E.P t) cs g K
 |some (true,n+1)=>match Nat.beq (A6 E.P 8 t).length (n+1)with
  |true=>a3L S (A6 E.P 8 t) cs g λvs=>K (.agg vs)
  |false=>False
 |_=>False
def ldE(t:TypeId)(r:Y14)(K:IV->Prop):Prop:=match iL E.P t with
 |some (true,n+1)=>match Nat.beq (A6 E.P 8 t).length (n+1)with
  |true=>S.ldG (n+1) r 0 λxs=>a3L S (A6 E.P 8 t) xs 0 λvs=>K (.agg vs)
  |false=>ldC S (Qk E.P t) r 0 K
 |_=>ldC S (Qk E.P t) r 0 K
def c7M:Nat->List CK
 |0=>[]
 |n+1=> .any::c7M n
def ldW(d:Option Tmp)(t:TypeId)(cs:Y14)(g:Nat)(K:IV->Prop):Prop:=match d with
 |some s=>match E.ld f s with
  |true=>match iL E.P t with
   |some (false,_)=>S.ldA cs g K
   |some (true,n+1)=>a3L S (c7M (n+1)) cs g λvs=>K (.agg vs)
   |_=>False
  |false=>match E.ln f s with
   |0=>ldK S E t cs g K
   |1=>match iL E.P t,Qk E.P t with
    |some (false,_),.slc sz=>S.ldNV sz cs g (K .nilslice) λid e len c=>K (.vslice (some id) e len sz c)
    |_,_=>False
   |3=>match iL E.P t with
    |some (false,_)=>S.ldM cs g λid=>K (.map id)
    |_=>False
   |4=>match iL E.P t with
    |some (false,_)=>S.ldP cs g λid o=>K (.ptr id o)
    |_=>False
   |5=>match iL E.P t,Qk E.P t with
    |some (false,_),.slc sz=>S.ldNH sz cs g False λid o len=>K (.hslice id o len sz)
    |_,_=>False
   |6=>match iL E.P t with
    |some (false,_)=>S.ldNM cs g (K .nilmap) λid=>K (.map id)
    |_=>False
   |_=>match iL E.P t,Qk E.P t with
    |some (false,_),.slc sz=>S.ldNH sz cs g (K .nilslice) λid o len=>K (.hslice id o len sz)
    |_,_=>False
 |none=>ldK S E t cs g K
def stK(t:TypeId)(cs:Y14)(g:Nat)(v:IV)(K:Y14->Prop):Prop:=match iN E.P t,uR v with
 |some n,true=>match Nat.beq (cellsOf v).length n with
  |true=>S.need (Nat.ble (g+n) cs.length) (K (cs.take g++cellsOf v++cs.drop (g+n)))
  |false=>False
 |_,_=>False
def uH(P:Program):List Field->Y14->Y14->Option Bool
 | [],_,_=>some true
 |f::fs,xs,ys=>
  if f.name == "_" then none else
  match P.underlying f.type,xs[f.offset]?,ys[f.offset]? with
  |some d,some x,some y=>match dD d x y,uH P fs xs ys with
   |some b,some c=>some (b&&c)
   |_,_=>none
  |_,_,_=>none
def sA(P:Program):List Field->Y14->Y14->Option Bool
 | [],_,_=>some true
 |f::fs,xs,ys=>
  if f.name == "_" then none else
  match P.underlying f.type with
  |some (.struct gs)=>match eM P f.type xs f.offset,eM P f.type ys f.offset with
   |some (.agg us),some (.agg vs)=>if P.stoodInHeld f.type then none else match uH P gs.toList us vs,sA P fs xs ys with
    |some b,some c=>some (b&&c)
    |_,_=>none
   |_,_=>none
  |some d=>match xs[f.offset]?,ys[f.offset]? with
   |some x,some y=>match dD d x y,sA P fs xs ys with
    |some b,some c=>some (b&&c)
    |_,_=>none
   |_,_=>none
  |none=>none
def a6L(t:TypeId)(xs g:Y14):Option Bool:=match E.P.underlying t with
 |some (.struct fs)=>match E.P.stoodInHeld t||E.P.eqGuardType E.P.depth t with
  |true=>none
  |false=>sA E.P fs.toList xs g
 |_=>none
def d7H(op:BinOp)(c:Bool)(t:TypeId)(a b:IV)(K:IV->Prop):Prop:=match a,b with
 | .int k x,.int k' y=>match op with
  | .quo=>if k=k' then S.need (!(y==0)) (K (.int k (k.wrap (x.tdiv y))))else False
  | .rem=>if k=k' then S.need (!(y==0)) (K (.int k (x.tmod y)))else False
  | .shl=>S.need (decide (0<=y)) (K (.int k (k.wrap (x*2^ (min y.toNat k.bits)))))
  | .shr=>S.need (decide (0<=y)) (K (.int k (x.fdiv (2^ (min y.toNat k.bits)))))
  |op=>match(if k=k' then wG op k x y else none)with
   |some v=>K v
   |none=>False
 | .str x,.str y=>match op with
  | .add=>S.need (Nat.ble (x.length+y.length) 9223372036854775807) (K (.str (x++y)))
  |op=>match Gb op x y with
   |some v=>K v
   |none=>False
 | .agg xs,.agg ys=>match op with
  | .eql=>match a6L E t xs ys with
   |some b=>K (.bool b)
   |none=>False
  | .neq=>match a6L E t xs ys with
   |some b=>K (.bool (!b))
   |none=>False
  |_=>False
 |x,y=>match qV E.P op c t x y with
  |some v=>K v
  |none=>False
def b0S(len:Nat)(lo g:Option (Option TV))(K:Int->Int->Prop):Prop:=
 match(match lo with|none=>some (0:Int)|some x=>Lw x),(match g with|none=>some (len:Int)|some x=>Lw x)with
 |some l,some h=>S.need (decide (0<=l) && (decide (l<=h) &&decide (h<=len))) (K l h)
 |_,_=>False
def e8Q:FuncId->Y14->Heap->Option (IV×Heap):=λ_ _ _=>none
def Dl(draw:Bool)(o:Oper)(F:GF)(h:Heap)(K:GF->Ef->Prop):Prop:=match eJ E f e8Q draw o (bC E F.tmg) F.lvg h with
 |some e=>K F e
 |none=>False
def Un(c:Operand)(F:GF)(x:Bool):GF:=match c with
 | .tmp t=>F.put (some t) (some (.v (.bool x)))
 |_=>F
def c4A(h:Heap)(sz:Nat)(x:IV)(K:Nat->Y14->Prop):Prop:=match x with
 | .nilslice=>K 0 []
 | .vslice _ _ len z cs=>match Nat.beq z sz with
  |true=>K len cs
  |false=>False
 | .hslice id off len z=>match Nat.beq z sz with
  |true=>S.hget h id λcs=>S.need (Nat.ble (off+len*sz) cs.length) (K len ((cs.drop off).take (len*sz)))
  |false=>False
 | .str s=>match Nat.beq sz 1 with
  |true=>K s.length (s.map λb=> .int .u8 b.toNat)
  |false=>False
 |_=>False
def d7E(h:Heap)(g sz bytes:Nat)(s x:IV)(K:IV->Heap->Prop):Prop:=c4A S h sz x λn xs=>
 S.br (Nat.beq n 0)
  (match s with
   | .nilslice=>K .nilslice h
   | .vslice id e len z cs=>match Nat.beq z sz with
    |true=>K (.vslice id e len z cs) h
    |false=>False
   | .hslice id off len z=>match Nat.beq z sz with
    |true=>K (.hslice id off len z) h
    |false=>False
   |_=>False)
  (match s with
   | .nilslice=>S.need (Nat.ble (n*bytes) 140737488355328) (K (newRow h g n sz xs).1 (newRow h g n sz xs).2)
   | .vslice none 1 len z cs=>match Nat.beq z sz with
    |true=>S.need (Nat.ble ((len+n)*bytes) 140737488355328) (K (newRow h g (len+n) sz (cs++xs)).1 (newRow h g (len+n) sz (cs++xs)).2)
    |false=>False
   | .vslice (some id) e len z cs=>match Nat.beq z sz with
    |true=>S.tip h id λm=>S.need (Nat.beq m e&&Nat.ble ((len+n)*bytes) 140737488355328) (K (.vslice (some id) (e+n*sz) (len+n) sz (cs++xs)) (h.set id (.tip (e+n*sz))))
    |false=>False
   | .hslice id off len z=>match Nat.beq z sz with
    |true=>S.hget h id λcs=>S.need (Nat.beq off 0&& (Nat.ble (len*sz) cs.length&&Nat.ble ((len+n)*bytes) 140737488355328)) (K (.hslice h.next 0 (len+n) sz) ((h.set id .dead).push (.cells (cs.take (len*sz)++xs))))
    |false=>False
   |_=>False)
def b4L(h:Heap)(g sz bytes:Nat)(s x:IV)(K:IV->Heap->Prop):Prop:=match Nat.beq g 0 with
 |true=>c4A S h sz x λn xs=>match n with
  |0=>False
  |n+1=>S.app h sz bytes s (n+1) xs λid e len cs h2=>K (.vslice (some id) e len sz cs) h2
 |false=>False
def Dg(g:FuncId)(xs:Y14):Y14:=match E.iso g with
 |true=>match E.P.funcs[g]? with
  |some fn=>dS E.P fn.params.toList xs
  |none=>xs
 |false=>match E.le g with
  |true=>xs
  |false=>match E.nr g with
   |true=>match E.P.funcs[g]? with
    |some fn=>dS E.P fn.params.toList xs
    |none=>xs
   |false=>xs
def a3M(g:FuncId)(xs:Y14):Y14:=match E.P.funcs[g]? with
 |some fn=>dS E.P fn.params.toList xs
 |none=>xs
def Vg(h:Heap)(v:IV)(K:IV->Heap->Prop):Prop:=match v with
 | .hslice id off len sz=>S.hget h id λcs=>S.need (Nat.ble 1 sz&&Nat.ble (off+len*sz) cs.length) (K (.vslice none 0 len sz ((cs.drop off).take (len*sz))) (h.set id .dead))
 |v=>K v h
def Dr(g:Heap->IV->(IV->Heap->Prop)->Prop):Y14->Heap->(Y14->Heap->Prop)->Prop
 | [],h,K=>K [] h
 |v::r,h,K=>g h v λl h'=>Dr g r h' λj i=>K (l::j) i
def c0L(h:Heap)(xs:Y14)(K:Y14->Prop):Prop:=Dr (Vg S) xs h λg _=>S.need (I0 g) (K g)
def opW(draw:Bool)(o:Oper)(F:GF)(h:Heap)(K:GF->Ef->Prop):Prop:=match o.op with
 | .move x=>match e1E E f o with
  |true=>match bH (bC E F.tmg x)with
   |some (.hslice id off len sz)=>S.hget h id λcs=>S.need (Nat.ble 1 sz&&Nat.ble (off+len*sz) cs.length) (K F ⟨.e,some (.v (.vslice none 0 len sz ((cs.drop off).take (len*sz)))),none,false,h.set id .dead⟩)
   |_=>False
  |false=>match bC E F.tmg x with
   |some v=>K F ⟨.p,some v,none,false,h⟩
   |none=>False
 | .pick c a b=>match bC E F.tmg c with
  |some (.v (.bool x))=>S.br x
   (match bC E F.tmg a with|some v=>K (Un c F true) ⟨.p,some v,none,false,h⟩|none=>False)
   (match bC E F.tmg b with|some v=>K (Un c F false) ⟨.p,some v,none,false,h⟩|none=>False)
  |_=>False
 | .binOp op t x y _=>match bH (bC E F.tmg x),bH (bC E F.tmg y)with
  |some a,some b=>d7H S E op (nH x||nH y) t a b λv=>K F ⟨.p,some (.v v),none,false,h⟩
  |_,_=>False
 | .load t a=>match bC E F.tmg a with
  |some (.l s off)=>match F.lvg s with
   |some cs=>ldW S E f o.dst t cs off λv=>K F ⟨.l,some (.v v),none,false,h⟩
   |none=>False
  |some (.v (.vref cs off))=>ldW S E f o.dst t cs off λv=>K F ⟨.p,some (.v v),none,false,h⟩
  |some (.v (.ptr id off))=>S.hget h id λcs=>ldW S E f o.dst t cs off λv=>K F ⟨.r,some (.v v),none,false,h⟩
  |_=>False
 | .store t a x=>match bC E F.tmg a,bH (bC E F.tmg x)with
  |some (.l s off),some v=>match F.lvg s with
   |some cs=>stK S E t cs off v λcs'=>K F ⟨.s,none,some (s,cs'),false,h⟩
   |none=>False
  |some (.v (.ptr id off)),some v=>S.hget h id λcs=>stK S E t cs off v λcs'=>K F ⟨.e,none,none,false,h.set id (.cells cs')⟩
  |_,_=>False
 | .indexAddr t x ix=>match Lw (bC E F.tmg ix),E.P.underlying t with
  |some i,some (.array n e)=>match iN E.P e,bC E F.tmg x with
   |some sz,some a=>S.need (decide (0<=i) &&decide (i<n)) (match pC (i.toNat*sz) a with|some v=>K F ⟨.p,some v,none,false,h⟩|none=>False)
   |_,_=>False
  |some i,some (.slice e)=>match iN E.P e,bH (bC E F.tmg x)with
   |some sz,some (.vslice _ _ len z cs)=>match Nat.beq z sz with
    |true=>S.need (decide (0<=i) &&decide (i<len)) (K F ⟨.p,some (.v (.vref cs (i.toNat*sz))),none,false,h⟩)
    |false=>False
   |some sz,some (.hslice id off len z)=>match Nat.beq z sz with
    |true=>S.need (decide (0<=i) &&decide (i<len)) (K F ⟨.p,some (.v (.ptr id (off+i.toNat*sz))),none,false,h⟩)
    |false=>False
   |_,_=>False
  |_,_=>False
 | .index t x ix=>match Lw (bC E F.tmg ix),E.P.underlying t,bH (bC E F.tmg x)with
  |some i,some (.array n e),some (.agg cs)=>match iN E.P e with
   |some sz=>S.need (decide (0<=i) &&decide (i<n)) (ldK S E e cs (i.toNat*sz) λv=>K F ⟨.p,some (.v v),none,false,h⟩)
   |none=>False
  |some i,some .string,some (.str s)=>S.need (decide (0<=i)) (S.chr s i.toNat λb=>K F ⟨.p,some (.v (.int .u8 b)),none,false,h⟩)
  |_,_,_=>False
 | .slice t x lo hi mx=>match mx,E.P.underlying t,bH (bC E F.tmg x)with
  |none,some .string,some (.str s)=>b0S S s.length (lo.map (bC E F.tmg)) (hi.map (bC E F.tmg)) λl h'=>K F ⟨.p,some (.v (.str ((s.drop l.toNat).take (h'.toNat-l.toNat)))),none,false,h⟩
  |none,some (.slice e),some (.vslice id en len z cs)=>match iN E.P e with
   |some sz=>match Nat.beq z sz with
    |true=>b0S S len (lo.map (bC E F.tmg)) (hi.map (bC E F.tmg)) λl h'=>
     K F ⟨.p,some (.v (.vslice id (en- (len-h'.toNat)*sz) (h'.toNat-l.toNat) sz ((cs.drop (l.toNat*sz)).take ((h'.toNat-l.toNat)*sz)))),none,false,h⟩
    |false=>False
   |none=>False
  |none,some (.slice e),some (.hslice id off len z)=>match iN E.P e with
   |some sz=>match Nat.beq z sz with
    |true=>b0S S len (lo.map (bC E F.tmg)) (hi.map (bC E F.tmg)) λl h'=>K F ⟨.p,some (.v (.hslice id (off+l.toNat*sz) (h'.toNat-l.toNat) sz)),none,false,h⟩
    |false=>False
   |none=>False
  |none,some (.array n e),some (.ptr id off)=>match iN E.P e with
   |some (sz+1)=>S.hget h id λcs=>S.need (Nat.ble (off+n*(sz+1)) cs.length) (b0S S n (lo.map (bC E F.tmg)) (hi.map (bC E F.tmg)) λl h'=>
    K F ⟨.r,some (.v (.hslice id (off+l.toNat*(sz+1)) (h'.toNat-l.toNat) (sz+1))),none,false,h⟩)
   |_=>False
  |_,_,_=>Dl E f draw o F h K
 | .makeSlice t l c=>match E.P.underlying t,o.dst,Lw (bC E F.tmg l),Lw (bC E F.tmg c)with
  |some (.slice e),some d,some l,some c=>match iN E.P e,kL E.P e,dA E.P e with
   |some (sz+1),some bytes,some z=>match Nat.beq (cellsOf z).length (sz+1)with
    |true=>S.need (decide (0<=l) && (decide (l<=c) && (decide (c<=9223372036854775807) &&decide (bytes*c<=140737488355328))))
     (K F ⟨.e,some (.v (newRow h (1-E.A f d) l.toNat (sz+1) (fY l.toNat (cellsOf z))).1),none,false,(newRow h (1-E.A f d) l.toNat (sz+1) (fY l.toNat (cellsOf z))).2⟩)
    |false=>False
   |_,_,_=>False
  |_,_,_,_=>False
 | .call {callee:= .builtin .append,args,argTypes } =>match argTypes.toList,args.toList with
  | [t,u],[sx,xx]=>match bH (bC E F.tmg sx),bH (bC E F.tmg xx),E.P.underlying t,E.P.underlying u,o.dst with
   |some s,some x,some (.slice e),some du,some d=>match iN E.P e,kL E.P e,dA E.P e with
    |some (sz+1),some (bytes+1),some z=>match Nat.beq (cellsOf z).length (sz+1) &&oS du with
     |true=>match Nat.beq (E.ln f d) 9 with
      |true=>b4L S h (E.A f d) (sz+1) (bytes+1) s x λv h'=>K F ⟨.e,some (.v v),none,false,h'⟩
      |false=>d7E S h (E.A f d) (sz+1) (bytes+1) s x λv h'=>K F ⟨.e,some (.v v),none,false,h'⟩
     |false=>False
    |_,_,_=>False
   |_,_,_,_,_=>False
  |_,_=>False
 | .call {callee:= .builtin .copy,args,argTypes } =>match argTypes.toList,args.toList with
  |t::_,[sx,xx]=>match bH (bC E F.tmg sx),bH (bC E F.tmg xx),E.P.underlying t with
   |some (.hslice id off len z),some x,some (.slice e)=>match iN E.P e with
    |some (sz+1)=>match Nat.beq z (sz+1)with
     |true=>c4A S h (sz+1) x λn xs=>S.hget h id λcs=>S.need (Nat.ble (off+len*z) cs.length)
      (K F ⟨.e,some (.v (.int .i64 ((min n len:Nat):Int))),none,false,h.set id (.cells (spl cs off (xs.take (min n len*(sz+1)))))⟩)
     |false=>False
    |_=>False
   |_,_,_=>False
  |_,_=>False
 | .call {callee:= .value x,args,.. } =>match bC E F.tmg x,rQ (args.toList.map (bC E F.tmg))with
  |some (.v (.func (.func g) a b)),some xs=>match !E.iso g&&E.le g with
   |false=>S.call g (Dg E g (a++xs++b)) h λv h'=>K F ⟨rL (E.iso g),some (.v v),none,false,h'⟩
   |true=>c0L S h (a++xs++b) λD=>S.call g (a3M E g D) h λv h'=>K F ⟨rL (E.iso g),some (.v v),none,false,h'⟩
  |_,_=>False
 | .lookup t x k ok=>match E.P.underlying t,bH (bC E F.tmg x),bH (bC E F.tmg k)with
  |some (.map kt et),some (.map id),some key=>match E.P.underlying kt,dA E.P et with
   |some d,some z=>match qX d key with
    |true=>S.mlook h id d key (λr=>ldE S E et r λv=>K F ⟨.r,some (.v (match ok with|true=> .tuple [v,.bool true]|false=>v)),none,false,h⟩)
     (K F ⟨.r,some (.v (match ok with|true=> .tuple [z,.bool false]|false=>z)),none,false,h⟩)
    |false=>False
   |_,_=>False
  |_,_,_=>Dl E f draw o F h K
 | .mapUpdate t m k x=>match E.P.underlying t,bH (bC E F.tmg m),bH (bC E F.tmg k),bH (bC E F.tmg x)with
  |some (.map kt _),some (.map id),some key,some v=>match E.P.underlying kt with
   |some d=>match qX d key with
    |true=>S.mupd h id d key v λj=>K F ⟨.e,none,none,false,h.set id (.map j)⟩
    |false=>False
   |_=>False
  |_,_,_,_=>False
 | .mapEntry t m k=>match E.P.underlying t,bH (bC E F.tmg m),bH (bC E F.tmg k)with
  |some (.map kt et),some (.map id),some key=>match E.P.underlying kt,dA E.P et with
   |some d,some z=>match qX d key with
    |true=>S.ent h id d key z λv n j=>K F ⟨.e,some (.v (.tuple [v,.int .i64 n])),none,false,h.set id (.map j)⟩
    |false=>False
   |_,_=>False
  |_,_,_=>False
 | .entryStore _ m s x=>match bH (bC E F.tmg m),bH (bC E F.tmg s),bH (bC E F.tmg x)with
  |some (.map id),some (.int _ n),some v=>S.mput h id n v λj=>K F ⟨.e,none,none,false,h.set id (.map j)⟩
  |_,_,_=>False
 | .convert s d x=>match E.P.underlying s,E.P.underlying d,bH (bC E F.tmg x)with
  |some (.slice e),some .string,some (.vslice _ _ _ 1 cs)=>match E.P.underlying e with
   |some (.int .u8)=>S.byt cs λb=>K F ⟨.p,some (.v (.str b)),none,false,h⟩
   |_=>False
  |_,_,_=>Dl E f draw o F h K
 |_=>Dl E f draw o F h K
def opA(n:Nat)(o:Oper)(F:GF)(h:Heap)(K:GF->Ef->Prop):Prop:=match o.op with
 | .makeSlice t l c=>match E.P.underlying t,o.dst,Lw (bC E F.tmg l),Lw (bC E F.tmg c)with
  |some (.slice e),some d,some l,some c=>match iN E.P e,kL E.P e,dA E.P e with
   |some (sz+1),some bytes,some z=>match Nat.beq (cellsOf z).length (sz+1)with
    |true=>S.need (decide (0<=l) && (decide (l<=c) && (decide (c<=9223372036854775807) &&decide (bytes*c<=140737488355328))))
     (match Nat.beq (1-E.A f d) 0 with
      |true=>S.need (Nat.ble 1 l.toNat) (S.fre h n (K F ⟨.a,some (.v (D6 n (1-E.A f d) l.toNat (sz+1) (fY l.toNat (cellsOf z)))),none,false,h.set n (uU (1-E.A f d) l.toNat (sz+1) (fY l.toNat (cellsOf z)))⟩))
      |false=>S.fre h n (K F ⟨.a,some (.v (D6 n (1-E.A f d) l.toNat (sz+1) (fY l.toNat (cellsOf z)))),none,false,h.set n (uU (1-E.A f d) l.toNat (sz+1) (fY l.toNat (cellsOf z)))⟩))
    |false=>False
   |_,_,_=>False
  |_,_,_,_=>False
 | .call {callee:= .builtin .append,args,argTypes } =>match argTypes.toList,args.toList with
  | [t,u],[sx,xx]=>match bH (bC E F.tmg sx),bH (bC E F.tmg xx),E.P.underlying t,E.P.underlying u,o.dst with
   |some .nilslice,some x,some (.slice e),some du,some d=>match iN E.P e,kL E.P e,dA E.P e with
    |some (sz+1),some (bytes+1),some z=>match Nat.beq (cellsOf z).length (sz+1) &&oS du with
     |true=>match d1C (sz+1) x with
      |some (k,xs)=>S.br (Nat.beq k 0) (K F ⟨.p,some (.v .nilslice),none,false,h⟩)
       (S.need (Nat.ble (k*(bytes+1)) 140737488355328) (S.fre h n (K F ⟨.a,some (.v (D6 n (E.A f d) k (sz+1) xs)),none,false,h.set n (uU (E.A f d) k (sz+1) xs)⟩)))
      |none=>False
     |false=>False
    |_,_,_=>False
   |_,_,_,_,_=>False
  |_,_=>False
 |_=>match Bl E f o (bC E F.tmg) n with
  |some (v,none)=>K F ⟨.p,v,none,false,h⟩
  |some (v,some x)=>S.fre h n (K F ⟨.a,v,none,false,h.set n x⟩)
  |none=>False
def a1V(ops:List Oper)(o:Oper)(F:GF)(g skip:GF->Prop):Prop:=match o.guard with
 |none=>g F
 |some (j,b)=>match(ops[j]?).bind (·.dst)with
  |some d=>match F.tmg d with
   |some (.v (.bool x))=>S.br x ((match b with|true=>g|false=>skip) (F.put (some d) (some (.v (.bool true))))) ((match b with|true=>skip|false=>g) (F.put (some d) (some (.v (.bool false)))))
   |some .u=>skip F
   |_=>False
  |none=>False
def Yp(b:Nat)(h:Heap)(A:Prop):Ps->Prop
 | []=>A
 |q::r=>match b.testBit q.1 with
  |true=>Yp b h A r
  |false=>q.2 h/\Yp b h A r
def rdK(rs:Nat->Y10)(m:Met)(b:Nat)(id:Y10)(A:Prop):List Nat->Prop
 | []=>A
 |j::r=>match b.testBit j||!(m.a.testBit j)with
  |true=>rdK rs m b id A r
  |false=>match rs j,id with
   |some n,some k=>S.need (!(Nat.beq n k)) (rdK rs m b id A r)
   |_,_=>rdK rs m b id A r
def e9F(g:List Nat)(rs:Nat->Y10)(m:Met)(b:Nat)(id:Y10)(c:Cls)(A:Prop):Prop:=match c with
 | .r=>rdK S rs m b id A g
 |_=>A
def d9A(g:List Nat)(rs:Nat->Y10)(draw:Bool)(m:Met)(ps:Ps)(b:Nat)(id:Y10)(e:Ef)(A:Prop):Prop:=match draw with
 |false=>A
 |true=>match lS (m.chk e.c) b with
  |true=>e9F S g rs m b id e.c A
  |false=>match e.c with
   | .e=>match lS (m.e|||m.a) b with
    |true=>Yp b e.h A ps
    |false=>False
   |_=>False
def b0T(ops:List Oper)(draw:Bool)(bef:Nat->Nat)(j:List Nat)(rs:Nat->Y10):List (Oper×Nat)->Met->Ps->GF->Heap->(GF->Heap->Prop)->Prop
 | [],_,_,F,h,K=>K F h
 | (o,i)::r,m,ps,F,h,K=>a1V S ops o F
  (λg=>(match rs i with
   |none=>opW S E f draw o g h
   |some n=>opA S E f n o g h) λl e=>d9A S j rs draw m ps (bef i) (mL o (bC E g.tmg)) e (b0T ops draw bef j rs r (m.add e.c i) (Oo E o (bC E F.tmg) e i ps) (l.app o.dst e) e.h K))
  (λF=>b0T ops draw bef j rs r m ps (F.put o.dst (some .u)) h K)
def fC:Code->Nat
 | .region id _ _=>id+1
 | .seq a b=>match fC a with
  |0=>fC b
  |n=>n
 | .cond _ a b=>match fC a with
  |0=>fC b
  |n=>n
 | .block _ c=>fC c
 | .loop c=>fC c
 | .scope c=>fC c
 |_=>0
def dUn(g:GF->Heap->(Ex->GF->Heap->Prop)->Prop):Nat->GF->Heap->(Ex->GF->Heap->Prop)->Prop
 |0,_,_,_=>False
 |n+1,F,h,K=>g F h λx F h=>match x with
  | .normal=>dUn g n F h K
  |x=>K x F h
variable (U:Nat->Nat) (IL IC:Nat->Option Inv')
def dC:Code->GF->Heap->(Ex->GF->Heap->Prop)->Prop
 | .skip,F,h,K=>K .normal F h
 | .region id ops draw,F,h,K=>match E.an f id with
  | []=>b0T S E f ops.toList draw (Co ops) [] (λ_=>none) (X1 (E.od f id) draw ops.toList) {} [] (F.start E f ops.toList draw) h λF h=>K .normal F h
  |j::r=>b0T S E f ops.toList draw (Co ops) (j::r) (a4F h.next (j::r)) (X1 (E.od f id) draw ops.toList) {} [] (F.start E f ops.toList draw) (h.reserve (r.length+1)) λF h=>K .normal F h
 | .seq a b,F,h,K=>match IC (fC b)with
  |none=>match IC (Nat.add (fC b) 1000000)with
   |none=>dC a F h λx F h=>match x with
    | .normal=>dC b F h K
    |x=>K x F h
   |some v=> ∃M:Nat,(dC a F h λx F h=>match x with
    | .normal=>v.J F h λm=>m<=M
    |x=>K x F h)/\v.I λG h m=>m<=M->dC b G h K
  |some v=>(dC a F h λx F h=>match x with
   | .normal=>v.J F h λ_=>True
   |x=>K x F h)/\v.I λG h _=>dC b G h K
 | .cond c a b,F,h,K=>match bC E F.tmg c with
  |some (.v (.bool x))=>S.br x (dC a (Un c F true) h K) (dC b (Un c F false) h K)
  |_=>False
 | .block id c,F,h,K=>dC c F h λx F h=>match x with
  | .exit id'=>match Nat.beq id' id with
   |true=>K .normal F h
   |false=>K (.exit id') F h
  |x=>K x F h
 | .loop c,F,h,K=>match U (fC c)with
  |n+1=>dUn (dC c) (n+1) F h K
  |0=>match IL (fC c)with
   |some v=>(v.J F h λ_=>True)/\v.I λG h m=>dC c G h λx G h=>match x with
    | .normal=>v.J G h λg=>g<m
    |x=>K x G h
   |none=>match IL (Nat.add (fC c) 1000000)with
    |some v=> ∃M:Nat,(v.J F h λm=>m<=M)/\v.I λG h m=>m<=M->dC c G h λx G h=>match x with
     | .normal=>v.J G h λg=>g<m
     |x=>K x G h
    |none=>False
 | .exit id,F,h,K=>K (.exit id) F h
 | .scope c,F,h,K=>dC c F h K
 | .ret,F,h,K=>K .ret F h
 |_,_,_,_=>False
def c7N(id:Nat)(K:Ex->GF->Heap->Prop)(x:Ex)(F:GF)(h:Heap):Prop:=match x with
 | .exit id'=>match Nat.beq id' id with
  |true=>K .normal F h
  |false=>K (.exit id') F h
 |x=>K x F h
def a1P:Code->GF->Heap->(Ex->GF->Heap->Prop)->Prop
 | .seq a b,F,h,K=>match IC (fC b)with
  |none=>dC S E f U IL IC a F h λx F h=>match x with
   | .normal=>a1P b F h K
   |x=>K x F h
  |some v=>dC S E f U IL IC a F h λx F h=>match x with
   | .normal=>v.J F h λ_=>True
   |x=>K x F h
 | .block id c,F,h,K=>a1P c F h (c7N id K)
 | .scope c,F,h,K=>a1P c F h K
 |c,F,h,K=>dC S E f U IL IC c F h K
def Di:Code->(Ex->GF->Heap->Prop)->Prop
 | .seq _ b,K=>match IC (fC b)with
  |none=>Di b K
  |some v=>(v.I λG h _=>a1P S E f U IL IC b G h K)/\Di b K
 | .block id c,K=>Di c (c7N id K)
 | .scope c,K=>Di c K
 |_,_=>True
def c3X:Nat:=99999999
def e2I(F:GF)(h:Heap)(K:IV->Prop):ResultVar->Prop
 | .tmp t=>match bH (F.tmg t)with
  |some v=>K v
  |none=>False
 | .cell a t=>match F.tmg a with
  |some (.l s off)=>match F.lvg s with
   |some cs=>ldW S E f (some a) t cs off K
   |none=>False
  |some (.v (.ptr id off))=>S.hget h id λcs=>ldW S E f (some a) t cs off K
  |_=>False
def Fl(F:GF)(h:Heap):List ResultVar->(Y14->Prop)->Prop
 | [],K=>K []
 |r::rs,K=>e2I S E f F h (λv=>Fl F h rs λvs=>K (v::vs)) r
def Qq:Y14->Nat->PT (Option TV)->PT (Option TV)
 | [],_,t=>t
 |v::r,i,t=>Qq r (i+1) (t.set i (some (some (.v v))))
def Qp(g:Y14):GF:=⟨Qq g 0 .nil,.nil,FF.none⟩
def a6R(h:Heap)(v:IV)(K:IV->Heap->Prop):Prop:=match v with
 | .agg cs=>Dr (Vg S) cs h λcs' h'=>K (.agg cs') h'
 |v=>Vg S h v K
inductive FrzR(h:Heap)(cs:Y14):Y14->Heap->Prop
 |mk:FrzR h cs (cs.map (sP h)) (c0E h cs)
def b7Q(h:Heap)(v:IV)(K:IV->Heap->Prop):Prop:=a6R S h v λv' h'=>match v' with
 | .vslice none e len sz cs=> ∀(cs':Y14)(g:Heap),FrzR h' cs cs' g->K (.vslice none e len sz cs') g
 |v'=>K v' h'
def Qt(vs:Y14)(h:Heap)(K:Y14->Prop):Prop:=match E.fz f with
 |true=>match E.fd f with
  |true=>Dr (b7Q S) vs h λg _=>K g
  |false=>Dr (a6R S) vs h λg _=>K g
 |false=>K vs
def Uz(rs:List ResultVar)(c:Code)(g:Y14)(h:Heap)(K:Y14->Heap->Prop):Prop:=
 match IC c3X with
 |none=>dC S E f U IL IC c (Qp g) h λx F h'=>match x with
  | .exit _=>False
  |_=>Fl S E f F h' rs λvs=>K vs h'
 |some _=>(a1P S E f U IL IC c (Qp g) h λx F h'=>match x with
  | .exit _=>False
  |_=>Fl S E f F h' rs λvs=>K vs h')/\Di S E f U IL IC c λx F h'=>match x with
  | .exit _=>False
  |_=>Fl S E f F h' rs λvs=>K vs h'
def dF(g:Y14)(h:Heap)(Q:IV->Heap->Prop):Prop:=match E.P.funcs[f]? with
 |some fn=>match fn.body with
  |some c=>match E.iso f with
   |false=>match E.le f with
    |false=>Uz S E f U IL IC fn.results.toList c (X0 E f fn.params.toList g) h λvs h'=>match E.fz f with
     |true=>Q (lO E f (eF (X0 E f fn.resultTypes.toList vs)) h').1 (lO E f (eF (X0 E f fn.resultTypes.toList vs)) h').2
     |false=>Q (eF (X0 E f fn.resultTypes.toList vs)) h'
    |true=>c0L S h g λi=>S.need (aQ (dS E.P fn.params.toList i)) (Uz S E f U IL IC fn.results.toList c (dS E.P fn.params.toList i) Heap.empty λvs _=>
     S.need (F6 (dS E.P fn.resultTypes.toList vs)) (Q (eF (dS E.P fn.resultTypes.toList vs)) h))
   |true=>S.need (aQ (dS E.P fn.params.toList g)) (Uz S E f U IL IC fn.results.toList c (dS E.P fn.params.toList g) Heap.empty λvs h'=>
    Qt S E f vs h' λws=>S.need (aQ (dS E.P fn.resultTypes.toList ws)) (Q (eF (dS E.P fn.resultTypes.toList ws)) h))
  |none=>False
 |none=>False
end
end Go.Pv
end
end
