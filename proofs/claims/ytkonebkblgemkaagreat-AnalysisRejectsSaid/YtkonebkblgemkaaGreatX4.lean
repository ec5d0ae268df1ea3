/-
  Texts of this proof, one after the other.
  Conditions: none.
-/
import Derived.Test.YtkonebkblgemkaaGreatX3
set_option linter.unusedVariables false
set_option linter.unusedSimpArgs false
set_option maxRecDepth 100000
set_option maxHeartbeats 4000000
noncomputable section
section
namespace Go.Pv
section
variable {E:Env} {f:FuncId} {o:Oper} {ev ev':Operand->Option TV} {h:Heap}
theorem wL{l:List Operand}(g: ∀x∈l,ev x=ev' x):l.map ev=l.map ev':=h5B g
theorem uS{l:List (Nat×Operand)}(g: ∀x∈l.map (·.2),ev x=ev' x):(l.map fun(i,x)=>(i,ev x))=l.map fun(i,x)=>(i,ev' x):=
 h5B fun p j=>by
  obtain⟨i,x⟩:=p;simp only [g x (h4O.2 ⟨(i,x),j,rfl⟩)]
theorem wM{x:Option Operand}(g: ∀y,x=some y->ev y=ev' y):x.map ev=x.map ev':=by
 cases x with
 |none=>rfl
 |some y=>simp [g y rfl]
theorem c9U(g: ∀x∈o.op.operands,ev x=ev' x):eN E f o ev=eN E f o ev':=by
 unfold eN
 cases hop:o.op<;>simp only [hop,Op.operands]at g⊢
 case move x=>rw [g x (by simp)]
 case assign x=>rw [g x (by simp)]
 case pick c a b=>rw [g c (by simp),g a (by simp),g b (by simp)]
 case box t x=>rw [g x (by simp)]
 case build t ps=>rw [uS (ev:=ev) (ev':=ev') (fun x m=>g x (by simpa using m))]
 case buildSlice t n ps=>rw [uS (ev:=ev) (ev':=ev') (fun x m=>g x (by simpa using m))]
 case load t x=>rw [g x (by simp)]
 case nilCheck x=>rw [g x (by simp)]
 case binOp op t x y u=>rw [g x (by simp),g y (by simp)]
 case unOp op t x=>rw [g x (by simp)]
 case convert s d x=>rw [g x (by simp)]
 case makeInterface t x=>rw [g x (by simp)]
 case makeFunc fn a b=>rw [wL (ev:=ev) (ev':=ev') (fun x m=>g x (by simp at m⊢;exact .inl m)),wL (ev:=ev) (ev':=ev') (l:=b.toList) (fun x m=>g x (by simp at m⊢;exact .inr m))]
 case slice t x lo hi mx=>
  rw [g x (by simp),wM (ev:=ev) (ev':=ev') (fun y z=>g y (by subst z;simp)),wM (ev:=ev) (ev':=ev') (x:=hi) (fun y z=>g y (by subst z;simp))]
 case fieldAddr t x i=>rw [g x (by simp)]
 case field t x i=>rw [g x (by simp)]
 case indexAddr t x i=>rw [g x (by simp),g i (by simp)]
 case index t x i=>rw [g x (by simp),g i (by simp)]
 case extract x i=>rw [g x (by simp)]
 case typeAssert x s t ok=>rw [g x (by simp)]
 case call c=>
  obtain⟨p,j,r⟩:=c
  cases p with
  |value x=>rfl
  |invoke x n=>rfl
  |builtin b=>
   have A: ∀x∈j.toList,ev x=ev' x:=fun x m=>g x (by simp [Call.operands];simpa using m)
   have D:((j[0]?).bind fun x=>bM (ev x))=(j[0]?).bind fun x=>bM (ev' x):=by
    cases hq:j[0]? with
    |none=>rfl
    |some y=>
     have:y∈j.toList:=by
      rw [<-Array.getElem?_toList]at hq;exact h3C hq
     simp [A y this]
   cases b<;>simp only [D,wL A]
theorem c9V{lv lv':Nat->Option (List IV)}(g: ∀x∈o.op.operands,ev x=ev' x)(i: ∀s,lv s=lv' s):gD E o ev lv=gD E o ev' lv':=by
 have:lv=lv':=funext i;subst this;unfold gD
 cases hop:o.op<;>simp only [hop,Op.operands]at g⊢
 case load t x=>rw [g x (by simp)]
theorem c9W{lv lv':Nat->Option (List IV)}(g: ∀x∈o.op.operands,ev x=ev' x)(i: ∀s,lv s=lv' s):gZ E o ev lv=gZ E o ev' lv':=by
 have:lv=lv':=funext i;subst this;unfold gZ
 cases hop:o.op<;>simp only [hop,Op.operands]at g⊢
 case store t a x=>rw [g a (by simp),g x (by simp)]
theorem yS(j: ∀x∈o.op.operands,ev x=ev' x):dP E o ev h=dP E o ev' h:=by
 unfold dP
 cases hop:o.op<;>simp only [hop,Op.operands]at j⊢
 case load t x=>rw [j x (by simp)]
 case convert s d x=>rw [j x (by simp)]
 case slice t x lo hi mx=>
  rw [j x (by simp),wM (ev:=ev) (ev':=ev') (fun y m=>j y (by subst m;simp)),wM (ev:=ev) (ev':=ev') (x:=hi) (fun y m=>j y (by subst m;simp))]
 case lookup t x k ok=>rw [j x (by simp),j k (by simp)]
 case call c=>
  obtain⟨i,g,l⟩:=c
  cases i with
  |value x=>rfl
  |invoke x n=>rfl
  |builtin b=>
   have p: ∀x∈g.toList,ev x=ev' x:=fun x r=>j x (by simp [Call.operands];simpa using r)
   have u:((g[0]?).bind fun x=>bM (ev x))=(g[0]?).bind fun x=>bM (ev' x):=by
    cases hq:g[0]? with
    |none=>rfl
    |some y=>
     have:y∈g.toList:=by
      rw [<-Array.getElem?_toList]at hq;exact h3C hq
     simp [p y this]
   cases b<;>simp only [u]
theorem c9X(g: ∀x∈o.op.operands,ev x=ev' x):gV E f o ev h=gV E f o ev' h:=by
 unfold gV
 cases hop:o.op<;>simp only [hop,Op.operands]at g⊢
 case move x=>rw [g x (by simp)]
 case box t x=>rw [g x (by simp)]
 case buildSlice t n ps=>rw [uS (ev:=ev) (ev':=ev') (fun x A=>g x (by simpa using A))]
 case makeSlice t l c=>rw [g l (by simp),g c (by simp)]
 case convert s d x=>rw [g x (by simp)]
 case store t a x=>rw [g a (by simp),g x (by simp)]
 case mapUpdate t m k x=>rw [g m (by simp),g k (by simp),g x (by simp)]
 case mapEntry t m k=>rw [g m (by simp),g k (by simp)]
 case entryStore t m s x=>rw [g m (by simp),g s (by simp),g x (by simp)]
 case call c=>
  obtain⟨j,r,p⟩:=c
  cases j with
  |value x=>rfl
  |invoke x n=>rfl
  |builtin b=>
   have u: ∀x∈r.toList,ev x=ev' x:=fun x A=>g x (by simp [Call.operands];simpa using A)
   cases b<;>try rfl
   ·simp only;split
    ·rename_i z y _ i;rw [u z (by rw [i];simp),u y (by rw [i];simp)]
    ·rfl
   ·simp only;split
    ·rename_i z y _ i;rw [u z (by rw [i];simp),u y (by rw [i];simp)]
    ·rfl
theorem d3K{n:Nat}(p: ∀x∈o.op.operands,ev x=ev' x):aSh E f o ev n=aSh E f o ev' n:=by
 unfold aSh
 cases hop:o.op<;>simp only [hop,Op.operands]at p⊢
 case makeSlice t l c=>rw [p l (by simp),p c (by simp)]
 case call c=>
  obtain⟨g,j,i⟩:=c
  cases g with
  |value x=>rfl
  |invoke x n=>rfl
  |builtin b=>
   have r: ∀x∈j.toList,ev x=ev' x:=fun x z=>p x (by simp [Call.operands];simpa using z)
   cases b<;>try rfl
   simp only;split
   ·rename_i y u _ m;rw [r y (by rw [m];simp),r u (by rw [m];simp)]
   ·rfl
theorem yT(l: ∀x∈o.op.operands,ev x=ev' x):jO o ev=jO o ev':=by
 unfold jO
 cases hop:o.op<;>simp only [hop,Op.operands]at l⊢
 case load t x=>rw [l x (by simp)]
 case convert s d x=>rw [l x (by simp)]
 case slice t x lo hi mx=>rw [l x (by simp)]
 case lookup t x k ok=>rw [l x (by simp)]
 case call c=>
  obtain⟨i,g,j⟩:=c
  cases i with
  |value x=>rfl
  |invoke x n=>rfl
  |builtin b=>
   have m: ∀x∈g.toList,ev x=ev' x:=fun x p=>l x (by simp [Call.operands];simpa using p)
   have r:((g[0]?).bind fun x=>bM (ev x))=(g[0]?).bind fun x=>bM (ev' x):=by
    cases hq:g[0]? with
    |none=>rfl
    |some y=>
     have:y∈g.toList:=by
      rw [<-Array.getElem?_toList]at hq;exact h3C hq
     simp [m y this]
   cases b<;>simp only [r]
theorem b0I(l: ∀x∈o.op.operands,ev x=ev' x):dJ o ev=dJ o ev':=by
 unfold dJ
 cases hop:o.op<;>simp only [hop,Op.operands]at l⊢
 case call c=>
  obtain⟨g,j,i⟩:=c
  cases g with
  |builtin b=>rfl
  |invoke x n=>rfl
  |value x=>
   have p: ∀x∈j.toList,ev x=ev' x:=fun y m=>l y (by simp [Call.operands];simp at m;exact .inr m)
   simp only;rw [l x (by simp [Call.operands]),wL p]
end
def mP(h h2:Heap):Option Nat->Prop
 |none=>True
 |some id=>h2.get id=h.get id
theorem yU{E:Env}{o:Oper}{ev:Operand->Option TV}{h h2:Heap}{v:TV}(g:dP E o ev h=some v)(j:mP h h2 (jO o ev)):dP E o ev h2=some v:=by
 unfold jO at j;unfold dP at g⊢;split at g
 ·rename_i t a i;simp only [i]at j⊢;split at g
  ·rename_i id u D;simp only [D,mP]at j⊢;rw [j];exact g
  ·cases g
 ·rename_i s d x i;simp only [i]at j⊢;split at g
  ·rename_i e id u len y l p;simp only [p,mP]at j;simp only [y,l,p,j];exact g
  ·cases g
 ·rename_i t x O K L i;simp only [i]at j⊢;split at g
  ·rename_i n e id u l p;simp only [p,mP]at j;simp only [l,p,j];exact g
  ·cases g
 ·rename_i t x k T i;simp only [i]at j⊢;split at g
  ·rename_i V X m G y l p
   cases m with
   |map id=>
    rw [l]at j;have z:h2.get id=h.get id:=j;simp only [z]at g⊢;exact g
   |_=>exact g
  ·cases g
 ·rename_i A r _ i;simp only [i]at j⊢;split at g
  ·rename_i t id y l;simp only [l,mP]at j;simp only [y,l,j];exact g
  ·cases g
 ·cases g
theorem c9Y{E:Env}{o:Oper}{ev:Operand->Option TV}{h:Heap}{v:TV}{id:Nat}(g:dP E o ev h=some v)(j:jO o ev=some id):h.get id≠ .free:=by
 intro y;unfold jO at j;unfold dP at g;split at g
 ·rename_i t a i;simp only [i]at j;split at g
  ·rename_i l r K;simp only [K,h0V]at j;subst j;rw [y]at g;cases g
  ·cases g
 ·rename_i s d x i;simp only [i]at j;split at g
  ·rename_i e l r len A u z;simp only [z,h0V]at j;subst j;simp only [y]at g;split at g
   ·simp_all
   ·cases g
  ·cases g
 ·rename_i t x V L O i;simp only [i]at j;split at g
  ·rename_i n e l r u z;simp only [z,h0V]at j;subst j;rw [y]at g;simp at g
  ·cases g
 ·rename_i t x k X i;simp only [i]at j;split at g
  ·rename_i Y T m G A u z;rw [u]at j
   cases m with
   |map l=>
    simp only [h0V]at j;subst j;simp only [y]at g;split at g
    ·simp_all
    ·cases g
   |_=>cases j
  ·cases g
 ·rename_i D p _ i;simp only [i]at j;split at g
  ·rename_i t l A u;simp only [u,h0V]at j;subst j;rw [y]at g;simp at g
  ·cases g
 ·cases g
structure FF where
 tm:Nat->Option TV
 lv:Nat->Option (List IV)
def Fr.ff(g:Fr):FF:=⟨g.tm.get,g.lv.get⟩
def FF.put(F:FF)(d:Option Tmp)(v:Option TV):FF:=
 match d with
 |some t=> {F with tm:=fun k=>if k=t then v else F.tm k }
 |none=>F
def FF.lset(F:FF)(s:Nat)(cs:List IV):FF:= {F with lv:=fun k=>if k=s then some cs else F.lv k }
def FF.clr(F:FF)(s:Nat):FF:= {F with tm:=fun k=>match F.tm k with|some x=>if rF s x then some x else none|none=>none }
def FF.app(F:FF)(d:Option Tmp)(e:Ef):FF:=
 match e.loc with
 |some (s,cs)=>if e.box then((F.clr s).lset s cs).put d e.v else(F.put d e.v).lset s cs
 |none=>F.put d e.v
theorem c0A(g:Fr)(d:Option Tmp)(v:Option TV):(g.put d v).ff=g.ff.put d v:=by
 cases d with
 |none=>rfl
 |some t=>
  simp only [Fr.put,Fr.ff,FF.put]
  congr 1
  funext k;rw [PT.get_set]
theorem d3L(g:Fr)(d:Option Tmp)(e:Ef):(g.app d e).ff=g.ff.app d e:=by
 unfold Fr.app FF.app
 cases e.loc with
 |none=>exact c0A _ _ _
 |some q=>
  obtain⟨s,cs⟩:=q;simp only;split
  ·rw [c0A]
   congr 1
   simp only [Fr.box,Fr.ff,FF.lset,FF.clr]
   congr 1
   ·funext k;rw [PT.get_filt];cases g.tm.get k<;>rfl
   ·funext k;rw [PT.get_set]
  ·have h1:=c0A g d e.v;have h2:(g.put d e.v).lv=g.lv:=by cases d<;>rfl
   have h3:(Fr.ff {g.put d e.v with lv:=g.lv.set s (some cs) })=(Fr.ff (g.put d e.v)).lset s cs:=by
    simp only [Fr.ff,FF.lset]
    congr 1
    funext k;rw [PT.get_set,h2]
   rw [h3,h1]
section
variable (E:Env) (f:FuncId) (cf:FuncId->List IV->Heap->Option (IV×Heap)) (ops:List Oper) (bef:Nat->Nat)
def b4B(g:List Nat)(rs:Nat->Option Nat)(draw:Bool):List (Oper×Nat)->Met->Pd->FF->Heap->FF->Heap->Prop
 | [],_,_,F,h,F',h'=>F=F'/\h=h'
 | (o,i)::r,m,pd,F,h,F',h'=> ∃e,dE E f cf ops draw (rs i) o F.tm F.lv h=some e/\(draw=true->okB g rs m pd (bef i) (jO o (bC E F.tm)) e=true)/\b4B g rs draw r (m.add e.c i) (mK E o (bC E F.tm) e i pd) (F.app o.dst e) e.h F' h'
theorem c5I{u:List Nat}{rs:Nat->Option Nat}{draw:Bool} : ∀{l:List (Oper×Nat)}{m:Met}{p:Pd}{j g:Fr}{h h':Heap},mL E f cf ops draw bef u rs l m p j h=some (g,h')->b4B E f cf ops bef u rs draw l m p j.ff h g.ff h'
 | [],m,p,j,g,h,h',hr=>by simp [mL]at hr;obtain⟨rfl,rfl⟩:=hr;exact⟨rfl,rfl⟩
 | (o,i)::r,m,p,j,g,h,h',hr=>by
  unfold mL at hr;split at hr
  case h_2=>simp at hr
  rename_i e y;split at hr
  case isFalse=>simp at hr
  rename_i z;refine⟨e,y,fun hd=>by subst hd;simpa [Fr.ff]using z,?_⟩;rw [<-d3L];exact c5I hr
end
mutual
theorem b0J: ∀{a b:IV},b9P a b=true->a=b:=by
 intro a b h
 cases a<;>cases b<;>simp only [b9P,h0Y,decide_eq_true_eq,beq_iff_eq,h1X]at h
 all_goals first
  |rfl
  | (subst h;rfl)
  | (obtain⟨h1,h2⟩:=h;have e1:=h1I h1;have e2:=h1I h2;subst e1;subst e2;rfl)
  | (obtain⟨h1,h2⟩:=h;subst h1;subst h2;rfl)
  | (have e1:=h1I h;subst e1;rfl)
  | (have e1:=oP h;subst e1;rfl)
  | (obtain⟨h1,h2⟩:=h;have e1:=h1I h1;have e2:=oP h2;subst e1;subst e2;rfl)
  | (obtain⟨h1,h2,h3⟩:=h;have e2:=oP h2;have e3:=oP h3;subst h1;subst e2;subst e3;rfl)
  | (obtain⟨h1,h2⟩:=h;have e2:=b0J h2;subst h1;subst e2;rfl)
  | (obtain⟨h1,h2,h3,h4⟩:=h;have e1:=h1I h1;have e2:=h1I h2;have e3:=h1I h3;have e4:=h1I h4;subst e1;subst e2;subst e3;subst e4;rfl)
  | (obtain⟨h1,h2,h3,h4,h5⟩:=h;have e2:=h1I h2;have e3:=h1I h3;have e4:=h1I h4;have e5:=oP h5;subst h1;subst e2;subst e3;subst e4;subst e5;rfl)
theorem oP: ∀{a b:List IV},oL a b=true->a=b:=by
 intro a b h
 cases a with
 |nil=>cases b with
  |nil=>rfl
  |cons y r=>simp [oL]at h
 |cons x l=>cases b with
  |nil=>simp [oL]at h
  |cons y r=>
   simp only [oL,h0Y]at h;rw [b0J h.1,oP h.2]
end
mutual
theorem yV: ∀a:IV,b9P a a=true:=by
 intro a;have nb: ∀n:Nat,Nat.beq n n=true:=fun n=>h8Z n
 cases a<;>simp only [b9P,nb,decide_true,h5U,beq_self_eq_true,h2G]
 all_goals first
  |exact pX _
  | (rw [pX,pX];rfl)
  |exact yV _
theorem pX: ∀a:List IV,oL a a=true:=by
 intro a
 cases a with
 |nil=>rfl
 |cons x r=>simp only [oL,yV x,pX r,h5U]
end
theorem e4Z{a b:TV}(h:e4I a b=true):a=b:=by
 unfold e4I at h;split at h
 ·rw [b0J h]
 ·cases h
def jA:Cls->Cls->Bool
 | .l,.s=>true
 | .s,.l=>true
 | .s,.s=>true
 | .r,.e=>true
 | .e,.r=>true
 | .e,.e=>true
 | .a,.e=>true
 | .e,.a=>true
 |_,_=>false
section
variable {E:Env} {f:FuncId} {cf:FuncId->List IV->Heap->Option (IV×Heap)} {ops:List Oper}
theorem a7O{o:Oper}{ev:Operand->Option TV}{lv:Nat->Option (List IV)}{v:TV}(h:gD E o ev lv=some v): ∃t a s g,o.op= .load t a/\ev a=some (.l s g):=by
 unfold gD at h;split at h
 ·rename_i t a i;split at h
  ·rename_i s g j;exact⟨t,a,s,g,i,j⟩
  ·simp at h
 ·simp at h
theorem uT{o:Oper}{ev:Operand->Option TV}{lv:Nat->Option (List IV)}{v:Nat×List IV}(h:gZ E o ev lv=some v): ∃t a x s g,o.op= .store t a x/\ev a=some (.l s g):=by
 unfold gZ at h;split at h
 ·rename_i t a x i;split at h
  ·rename_i s g p j m;exact⟨t,a,x,s,g,i,j⟩
  ·simp at h
 ·simp at h
theorem mQ{o:Oper}{ev:Operand->Option TV}{h:Heap}(l:(dP E o ev h).isSome\/ (gV E f o ev h).isSome\/ (dJ o ev).isSome)(lv:Nat->Option (List IV)):gD E o ev lv=none/\gZ E o ev lv=none:=by
 constructor
 ·cases hl:gD E o ev lv with
  |none=>rfl
  |some v=>
   obtain⟨t,a,s,i,g,j⟩:=a7O hl;simp [dP,gV,dJ,g,j]at l
 ·cases hl:gZ E o ev lv with
  |none=>rfl
  |some v=>
   obtain⟨t,a,x,s,i,g,j⟩:=uT hl;simp [dP,gV,dJ,g,j]at l
theorem c9Z{o:Oper}{ev:Operand->Option TV}{h:Heap}(j:(gV E f o ev h).isSome\/ (dJ o ev).isSome)(h2:Heap):dP E o ev h2=none:=by
 cases hr:dP E o ev h2 with
 |none=>rfl
 |some v=>
  unfold dP at hr
  cases hop:o.op<;>simp only [hop]at hr<;>try (simp at hr;done)
  case load t a=>simp [gV,dJ,hop]at j
  case convert s d x=>
   split at hr
   ·rename_i e id p len h1 l h3;simp [gV,dJ,hop,h1,l,h3]at j
   ·simp at hr
  case slice t x lo hi mx=>simp [gV,dJ,hop]at j
  case lookup t x k ok=>simp [gV,dJ,hop]at j
  case call c=>
   obtain⟨g,m,i⟩:=c
   cases g with
   |value x=>simp at hr
   |invoke x n=>simp at hr
   |builtin b=>cases b<;>simp at hr<;>simp [gV,dJ,hop]at j
theorem d3M{o:Oper}{j:Nat->Option TV}{x:Operand}{s i:Nat}(m:x∈o.op.operands)(h:bC E j x=some (.l s i)): ∃t,t∈o.looksAt ops.toArray/\j t=some (.l s i):=by
 cases x with
 |tmp t=>
  refine⟨t,?_,h⟩;simp only [Oper.looksAt,h2S,h6A];exact .inl ⟨.tmp t,by simpa using m,rfl⟩
 |const v=>
  simp only [bC]at h;obtain⟨y,_,h2⟩:=h0W.1 h
  cases h2
 |global g=>
  simp only [bC]at h;obtain⟨y,_,h2⟩:=h0W.1 h
  cases h2
 |func g=>simp [bC]at h
theorem e5A{o:Oper}{ev:Operand->Option TV}{lv:Nat->Option (List IV)}{v:TV}(h:gD E o ev lv=some v): ∃x∈o.op.operands,∃s g,ev x=some (.l s g)/\(∃cs,lv s=some cs)/\∀lv2,lv2 s=lv s->gD E o ev lv2=some v:=by
 unfold gD at h;split at h
 ·rename_i t a i;split at h
  ·rename_i s g j;refine⟨a,by simp [i,Op.operands],s,g,j,?_,fun lv2 e=>?_⟩
   ·split at h
    ·rename_i cs m;exact⟨cs,m⟩
    ·simp at h
   ·simp only [gD,i,j,e];exact h
  ·simp at h
 ·simp at h
theorem e5B{o:Oper}{ev:Operand->Option TV}{lv:Nat->Option (List IV)}{q:Nat×List IV}(h:gZ E o ev lv=some q): ∃x∈o.op.operands,∃g,ev x=some (.l q.1 g)/\(∃cs,lv q.1=some cs)/\∀lv2,lv2 q.1=lv q.1->gZ E o ev lv2=some q:=by
 unfold gZ at h;split at h
 ·rename_i t a x i;split at h
  ·rename_i s g v j p;split at h
   ·rename_i cs m;obtain⟨y,h1,h2⟩:=h0W.1 h;subst h2;refine⟨a,by simp [i,Op.operands],g,j,⟨cs,m⟩,fun lv2 e=>?_⟩;simp only at e;simp only [gZ,i,j,p,e,m];exact h
   ·simp at h
  ·simp at h
 ·simp at h
theorem d0A{o:Oper}{ev:Operand->Option TV}{lv lv2:Nat->Option (List IV)}{q:Nat×List IV}(h:gZ E o ev lv=some q):gD E o ev lv2=none:=by
 obtain⟨t,a,x,s,i,g,j⟩:=uT h;simp [gD,g]
def qS(E:Env)(cf:FuncId->List IV->Heap->Option (IV×Heap)):Prop:= ∀g,E.iso g=true-> ∀xs h v h',cf g xs h=some (v,h')->h'=h/\∀h2,cf g xs h2=some (v,h2)
theorem d0B{o:Oper}{ev:Operand->Option TV}(g:(dJ o ev).isSome)(h2:Heap):gV E f o ev h2=none:=by
 unfold dJ at g;split at g
 ·rename_i x j _ i;simp [gV,i]
 ·simp at g
theorem a7P(D:qS E cf){o:Oper}{j:Nat->Option TV}{lv:Nat->Option (List IV)}{h:Heap}{e:Ef}(i:uN E f cf ops true o j lv h=some e):
  e.box=false/\
  (e.c= .p->e.loc=none/\e.h=h/\∀lv2 h2,uN E f cf ops true o j lv2 h2=some {e with h:=h2 })/\
  (e.c= .l->e.loc=none/\e.h=h/\∃t s m,t∈o.looksAt ops.toArray/\j t=some (.l s m)/\(∃cs,lv s=some cs)/\∀lv2 h2,lv2 s=lv s->uN E f cf ops true o j lv2 h2=some {e with h:=h2 })/\
  (e.c= .s->e.h=h/\∃t s m cs,t∈o.looksAt ops.toArray/\j t=some (.l s m)/\(∃cs,lv s=some cs)/\e.loc=some (s,cs)/\∀lv2 h2,lv2 s=lv s->uN E f cf ops true o j lv2 h2=some {e with h:=h2 })/\
  (e.c= .r->e.loc=none/\e.h=h/\∀lv2,uN E f cf ops true o j lv2 h=some e)/\
  (e.c= .e->e.loc=none/\∀lv2,uN E f cf ops true o j lv2 h=some e)/\
  (e.c= .b->e.h=h/\∃d cs,o.dst=some d/\e.loc=some (d,cs)/\lv d=none/\∀lv2 h2,lv2 d=none->uN E f cf ops true o j lv2 h2=some {e with h:=h2 }):=by
 unfold uN at i
 cases hw:dD ops j o with
 |none=>simp [hw]at i
 |some b=>
  simp only [hw]at i
  cases b with
  |false=>
   simp only [h0V]at i;subst i;refine⟨rfl,fun _=>⟨rfl,rfl,fun lv2 h2=>by simp [uN,hw]⟩,?_,?_,?_,?_,?_⟩<;>intro hc<;>simp at hc
  |true=>
   simp only at i;have Y: ∀lv2 h2,uN E f cf ops true o j lv2 h2=dX E f cf true o (bC E j) lv2 h2:=fun lv2 h2=>by simp [uN,hw]
   simp only [Y];unfold dX at i⊢
   cases hp:eN E f o (bC E j)with
   |some q=>
    obtain⟨v,bx⟩:=q;simp only [hp]at i⊢;split at i
    ·rename_i cs d hd;simp only [if_true]at i;split at i
     case h_2=>cases i
     rename_i T;simp only [h0V]at i;subst i;refine⟨rfl,?_,?_,?_,?_,?_,fun _=>⟨rfl,d,cs,hd,rfl,T,fun lv2 h2 e=>by simp [e]⟩⟩<;>intro hc<;>simp at hc
    ·rename_i Z;simp only [h0V]at i;subst i;refine⟨rfl,fun _=>⟨rfl,rfl,fun lv2 h2=>rfl⟩,?_,?_,?_,?_,?_⟩<;>intro hc<;>simp at hc
    ·simp at i
   |none=>
    simp only [hp]at i⊢
    cases hl:gD E o (bC E j) lv with
    |some v=>
     simp only [hl,h0V]at i;subst i;obtain⟨x,V,s,m,h1,h2,h3⟩:=e5A hl;obtain⟨t,y,z⟩:=d3M (ops:=ops) V h1;refine⟨rfl,?_,fun _=>⟨rfl,rfl,t,s,m,y,z,h2,fun lv2 K e=>by simp only [h3 lv2 e]⟩,?_,?_,?_,?_⟩<;>intro hc<;>simp at hc
    |none=>
     simp only [hl]at i
     cases hs:gZ E o (bC E j) lv with
     |some q=>
      obtain⟨x,V,m,h1,h2,h3⟩:=e5B hs;obtain⟨t,y,z⟩:=d3M (ops:=ops) V h1;have X:=fun lv2=>d0A (lv2:=lv2) hs
      obtain⟨s,cs⟩:=q;simp only [hs,h0V]at i;subst i;refine⟨rfl,?_,?_,fun _=>⟨rfl,t,s,m,cs,y,z,h2,rfl,fun lv2 K e=>by simp only [X lv2,h3 lv2 e]⟩,?_,?_,?_⟩<;>intro hc<;>simp at hc
     |none=>
      simp only [hs]at i
      cases hr:dP E o (bC E j) h with
      |some v=>
       simp only [hr,h0V]at i;subst i;have u:=fun lv2=>mQ (E:=E) (f:=f) (o:=o) (ev:=bC E j) (h:=h) (.inl (by simp [hr])) lv2
       refine⟨rfl,?_,?_,?_,fun _=>⟨rfl,rfl,fun lv2=>by simp only [(u lv2).1,(u lv2).2,hr]⟩,?_,?_⟩<;>intro hc<;>simp at hc
      |none=>
       simp only [hr]at i
       cases hee:gV E f o (bC E j) h with
       |some q=>
        obtain⟨v,h'⟩:=q;simp only [hee,h0V]at i;subst i;have u:=fun lv2=>mQ (E:=E) (f:=f) (o:=o) (ev:=bC E j) (h:=h) (.inr (.inl (by simp [hee]))) lv2
        refine⟨rfl,?_,?_,?_,?_,fun _=>⟨rfl,fun lv2=>by simp only [(u lv2).1,(u lv2).2,hr,hee]⟩,?_⟩<;>intro hc<;>simp at hc
       |none=>
        simp only [hee]at i
        cases hcl:dJ o (bC E j)with
        |none=>simp [hcl]at i
        |some q=>
         obtain⟨g,xs⟩:=q;simp only [hcl]at i;split at i
         case h_2=>simp at i
         rename_i v h' A;simp only [h0V]at i
         cases hiso:E.iso g with
         |true=>
          simp only [hiso,pS]at i;subst i;obtain⟨rfl,G⟩:=D g hiso _ _ _ _ A;have u:=fun lv2=>mQ (E:=E) (f:=f) (o:=o) (ev:=bC E j) (h:=h') (.inr (.inr (by simp [hcl]))) lv2
          have O:=c9Z (E:=E) (f:=f) (o:=o) (ev:=bC E j) (h:=h') (.inr (by simp [hcl]));have L:=d0B (E:=E) (f:=f) (o:=o) (ev:=bC E j) (by simp [hcl]);refine⟨rfl,fun _=>⟨rfl,rfl,fun lv2 h2=>by simp only [(u lv2).1,(u lv2).2,O h2,L h2,hcl,G h2,hiso,pS]⟩,?_,?_,?_,?_,?_⟩<;>intro hc<;>simp at hc
         |false=>
         simp only [hiso,pS]at i;subst i;have u:=fun lv2=>mQ (E:=E) (f:=f) (o:=o) (ev:=bC E j) (h:=h) (.inr (.inr (by simp [hcl]))) lv2
         refine⟨rfl,?_,?_,?_,?_,fun _=>⟨rfl,fun lv2=>by simp only [(u lv2).1,(u lv2).2,hr,hee,hcl,A,hiso,pS]⟩,?_⟩<;>intro hc<;>simp at hc
def rO(F:FF):Prop:= ∀k s off,F.tm k=some (.l s off)-> ∃cs,F.lv s=some cs
theorem a0L{o:Oper}{i g:Nat->Option TV}(h: ∀t∈o.looksAt ops.toArray,i t=g t):dD ops i o=dD ops g o:=by
 unfold dD
 cases hg:o.guard with
 |none=>rfl
 |some q=>
  obtain⟨j,b⟩:=q;simp only
  cases hd:(ops[j]?).bind (·.dst)with
  |none=>rfl
  |some d=>
   have:d∈o.looksAt ops.toArray:=by
    simp only [Oper.looksAt,hg,h4I,hd];simp
   simp only [h d this]
theorem jX{o:Oper}{j i:Nat->Option TV}(h: ∀t∈o.looksAt ops.toArray,j t=i t): ∀x∈o.op.operands,bC E j x=bC E i x:=by
 intro x l
 cases x with
 |tmp t=>
  simp only [bC];refine h t ?_;simp only [Oper.looksAt,h2S,h6A];exact .inl ⟨.tmp t,by simpa using l,rfl⟩
 |const v=>rfl
 |global g=>rfl
 |func g=>rfl
theorem d3N{draw:Bool}{o:Oper}{l i:Nat->Option TV}{lv:Nat->Option (List IV)}{h:Heap}(j: ∀t∈o.looksAt ops.toArray,l t=i t):uN E f cf ops draw o l lv h=uN E f cf ops draw o i lv h:=by
 have g:=jX (E:=E) j;simp only [uN,a0L j,dX,c9U (E:=E) (f:=f) g,c9V (E:=E) (lv:=lv) (lv':=lv) g (fun _=>rfl),c9W (E:=E) (lv:=lv) (lv':=lv) g (fun _=>rfl),yS (E:=E) (h:=h) g,c9X (E:=E) (f:=f) (h:=h) g,b0I g]
theorem FF.ext'{F G:FF}(h1: ∀k,F.tm k=G.tm k)(h2: ∀k,F.lv k=G.lv k):F=G:=by
 obtain⟨a,b⟩:=F;obtain⟨c,d⟩:=G;have i:a=c:=funext h1;have g:b=d:=funext h2;subst i;subst g;rfl
theorem fJ{F:FF}{d:Option Tmp}{e:Ef}(g:e.box=false)(k:Nat):(F.app d e).tm k=if d=some k then e.v else F.tm k:=by
 unfold FF.app
 cases e.loc with
 |none=>
  cases d with
  |none=>simp [FF.put]
  |some t=>
   simp only [FF.put,h0V]
   by_cases h:k=t
   ·simp [h]
   ·simp [h,show¬t=k from fun e=>h e.symm]
 |some q=>
  simp only [g,h1X,if_false,FF.lset]
  cases d with
  |none=>simp [FF.put]
  |some t=>
   simp only [FF.put,h0V]
   by_cases h:k=t
   ·simp [h]
   ·simp [h,show¬t=k from fun e=>h e.symm]
theorem hH{F:FF}{d:Option Tmp}{e:Ef}(g:e.box=false)(k:Nat):(F.app d e).lv k=match e.loc with|some (s,cs)=>if k=s then some cs else F.lv k|none=>F.lv k:=by
 unfold FF.app
 cases hl:e.loc with
 |none=>cases d<;>rfl
 |some q=>
  simp only [g,h1X,if_false,FF.lset]
  cases d<;>rfl
theorem rO.app(u:qS E cf){o:Oper}{F:FF}{h:Heap}{e:Ef}(D:rO F)(i:uN E f cf ops true o F.tm F.lv h=some e):rO (F.app o.dst e):=by
 have A:=(a7P u i).1;have p: ∀s,(∃cs,F.lv s=some cs)-> ∃cs,(F.app o.dst e).lv s=some cs:=by
  rintro s ⟨cs,r⟩;rw [hH A]
  cases e.loc with
  |none=>exact⟨cs,r⟩
  |some q=>
   obtain⟨G,cs'⟩:=q;simp only
   by_cases l:s=G
   ·exact⟨cs',by rw [if_pos l]⟩
   ·exact⟨cs,by rw [if_neg l];exact r⟩
 intro k s z l;rw [fJ A]at l;split at l
 case isFalse=>exact p s (D k s z l)
 rename_i hd;unfold uN at i
 cases hw:dD ops F.tm o with
 |none=>simp [hw]at i
 |some b=>
  simp only [hw]at i
  cases b with
  |false=>simp only [h0V]at i;subst i;simp at l
  |true=>
   simp only at i;unfold dX at i
   cases hp:eN E f o (bC E F.tm)with
   |some q=>
    obtain⟨v,bx⟩:=q;simp only [hp]at i
    cases bx with
    |none=>
     simp only [h0V]at i;subst i;simp only [h0V]at l;subst l;obtain⟨x,L,m⟩:=d2Z hp
     cases x with
     |tmp t=>exact p s (D t s L m)
     |const c=>simp only [bC]at m;obtain⟨y,_,h2⟩:=h0W.1 m;cases h2
     |global g=>simp only [bC]at m;obtain⟨y,_,h2⟩:=h0W.1 m;cases h2
     |func g=>simp [bC]at m
    |some cs=>
     simp only [hd,if_true]at i;split at i
     case h_2=>cases i
     rename_i p;simp only [h0V]at i;subst i;simp only [h0V]at l;subst l;obtain rfl:=d3A hp hd;refine⟨cs,?_⟩;rw [hH rfl];simp
   |none=>
    simp only [hp]at i;exfalso;have K: ∀tv,e.v=some tv-> ∃x,tv= .v x:=by
     intro tv j
     cases hl:gD E o (bC E F.tm) F.lv with
     |some v=>
      simp only [hl,h0V]at i;subst i;simp only [h0V]at j;subst j;unfold gD at hl
      repeat' split at hl
      all_goals first| (cases hl;done)| (obtain⟨y,_,h2⟩:=h0W.1 hl;exact⟨y,h2.symm⟩)
     |none=>
     simp only [hl]at i
     cases r:gZ E o (bC E F.tm) F.lv with
     |some v=>simp only [r,h0V]at i;subst i;cases j
     |none=>
     simp only [r]at i
     cases hr:dP E o (bC E F.tm) h with
     |some v=>
      simp only [hr,h0V]at i;subst i;simp only [h0V]at j;subst j;exact d3B hr
     |none=>
     simp only [hr]at i
     cases hee:gV E f o (bC E F.tm) h with
     |some q=>
      simp only [hee,h0V]at i;subst i;exact f1N hee j
     |none=>
     simp only [hee]at i;split at i
     ·split at i
      ·simp only [h0V]at i;subst i;simp only [h0V]at j;exact⟨_,j.symm⟩
      ·cases i
     ·cases i
    obtain⟨x,m⟩:=K _ l
    cases m
theorem d0C{draw:Bool}{o:Oper}{i:Nat->Option TV}{lv:Nat->Option (List IV)}{h:Heap}{e:Ef}(g:uN E f cf ops draw o i lv h=some e):e.c≠ .a:=by
 unfold uN at g;split at g
 ·cases g
 ·simp only [h0V]at g;subst g;simp
 ·unfold dX at g
  repeat' split at g
  all_goals first
   | (cases g;done)
   | (simp only [h0V]at g;subst g;first| (simp;done)| (simp only [pS];split<;>simp))
theorem yW{draw:Bool}{n:Nat}{o:Oper}{j:Nat->Option TV}{lv:Nat->Option (List IV)}{h:Heap}{e:Ef}(g:dE E f cf ops draw (some n) o j lv h=some e):
  e=⟨.p,some .u,none,false,h⟩ \/ (∃v,aSh E f o (bC E j) n=some (v,none)/\e=⟨.p,v,none,false,h⟩) \/ ∃v x,aSh E f o (bC E j) n=some (v,some x)/\h.get n= .free/\e=⟨.a,v,none,false,h.set n x⟩:=by
 unfold dE at g;simp only at g;split at g
 ·cases g
 ·simp only [h0V]at g;exact .inl g.symm
 ·split at g
  ·rename_i v i;simp only [h0V]at g;exact .inr (.inl ⟨v,i,g.symm⟩)
  ·rename_i v x i;split at g
   ·rename_i l;simp only [h0V]at g;exact .inr (.inr ⟨v,x,i,l,g.symm⟩)
   ·cases g
  ·cases g
theorem tE{draw:Bool}{rs:Option Nat}{o:Oper}{j g:Nat->Option TV}{lv:Nat->Option (List IV)}{h:Heap}(i: ∀t∈o.looksAt ops.toArray,j t=g t):dE E f cf ops draw rs o j lv h=dE E f cf ops draw rs o g lv h:=by
 unfold dE
 rw [d3N i,a0L i]
 cases rs with
 |none=>rfl
 |some n=>simp only [d3K (jX (E:=E) i)]
theorem a2K{o:Oper}{i:Nat->Option TV}{lv:Nat->Option (List IV)}{h h2:Heap}{e:Ef}(g:uN E f cf ops true o i lv h=some e)(j:e.c= .r):
  ∃v,dP E o (bC E i) h=some v/\e.v=some v/\(dP E o (bC E i) h2=some v-> ∀lv2,uN E f cf ops true o i lv2 h2=some {e with h:=h2 }):=by
 unfold uN at g⊢
 cases hw:dD ops i o with
 |none=>simp [hw]at g
 |some b=>
  cases b with
  |false=>
   simp only [hw,h0V]at g;subst g;simp at j
  |true=>
   simp only [hw]at g⊢;unfold dX at g⊢
   cases hp:eN E f o (bC E i)with
   |some q=>
    obtain⟨l,bx⟩:=q;exfalso;simp only [hp]at g
    repeat' split at g
    all_goals first| (cases g;done)| (simp only [h0V]at g;subst g;cases j)
   |none=>
    simp only [hp]at g⊢
    cases hl:gD E o (bC E i) lv with
    |some l=>
     simp only [hl,h0V]at g;subst g
     cases j
    |none=>
     simp only [hl]at g⊢
     cases hs:gZ E o (bC E i) lv with
     |some q=>
      obtain⟨y,u⟩:=q;simp only [hs,h0V]at g;subst g
      cases j
     |none=>
      simp only [hs]at g⊢
      cases hr1:dP E o (bC E i) h with
      |some l=>
       simp only [hr1,h0V]at g;subst g;refine⟨l,rfl,rfl,fun p lv2=>?_⟩;have m:=mQ (E:=E) (f:=f) (o:=o) (ev:=bC E i) (h:=h) (.inl (by simp [hr1])) lv2;simp only [m.1,m.2,p]
      |none=>
       exfalso;simp only [hr1]at g
       repeat' split at g
       all_goals first| (cases g;done)| (simp only [h0V]at g;subst g;first| (cases j;done)| (simp only at j;unfold pS at j;split at j<;>cases j))
theorem jB(h:Heap)(i:Option Nat):mP h h i:=by cases i<;>simp [mP]
theorem eO(m:qS E cf){rs:Option Nat}{o:Oper}{i:Nat->Option TV}{lv:Nat->Option (List IV)}{h:Heap}{e:Ef}(g:dE E f cf ops true rs o i lv h=some e):
  e.box=false/\
  (e.c= .p->e.loc=none/\e.h=h/\∀lv2 h2,dE E f cf ops true rs o i lv2 h2=some {e with h:=h2 })/\
  (e.c= .l->e.loc=none/\e.h=h/\∃t s off,t∈o.looksAt ops.toArray/\i t=some (.l s off)/\(∃cs,lv s=some cs)/\∀lv2 h2,lv2 s=lv s->dE E f cf ops true rs o i lv2 h2=some {e with h:=h2 })/\
  (e.c= .s->e.h=h/\∃t s off cs,t∈o.looksAt ops.toArray/\i t=some (.l s off)/\(∃cs,lv s=some cs)/\e.loc=some (s,cs)/\∀lv2 h2,lv2 s=lv s->dE E f cf ops true rs o i lv2 h2=some {e with h:=h2 })/\
  (e.c= .r->e.loc=none/\e.h=h/\(∀lv2 h2,mP h h2 (jO o (bC E i))->dE E f cf ops true rs o i lv2 h2=some {e with h:=h2 })/\∀id,jO o (bC E i)=some id->h.get id≠ .free)/\
  (e.c= .e->e.loc=none/\∀lv2,dE E f cf ops true rs o i lv2 h=some e)/\
  (e.c= .b->e.h=h/\∃d cs,o.dst=some d/\e.loc=some (d,cs)/\lv d=none/\∀lv2 h2,lv2 d=none->dE E f cf ops true rs o i lv2 h2=some {e with h:=h2 })/\
  (e.c= .a->e.loc=none/\∃n x,rs=some n/\h.get n= .free/\x≠ .free/\e.h=h.set n x/\∀lv2 h2,h2.get n= .free->dE E f cf ops true rs o i lv2 h2=some {e with h:=h2.set n x }):=by
 cases rs with
 |none=>
  simp only [dE]at g⊢;have u:=d0C g;obtain⟨b,p,l,s,r,e',x⟩:=a7P m g;refine⟨b,p,l,s,fun j=>⟨(r j).1,(r j).2.1,fun lv2 h2 D=>?_,fun id y=>?_⟩,e',x,fun j=>absurd j u⟩
  ·obtain⟨v,z,G,A⟩:=a2K (h2:=h2) g j;exact A (yU z D) lv2
  ·obtain⟨v,z,G,A⟩:=a2K (h2:=h) g j;exact c9Y z y
 |some n=>
  unfold dE at g
  cases hw:dD ops i o with
  |none=>simp [hw]at g
  |some b=>
   simp only [hw]at g
   cases b with
   |false=>
    simp only [h0V]at g;subst g;refine⟨rfl,fun _=>⟨rfl,rfl,fun lv2 h2=>by simp [dE,hw]⟩,?_,?_,?_,?_,?_,?_⟩<;>intro j<;>simp at j
   |true=>
    simp only at g
    cases ha:aSh E f o (bC E i) n with
    |none=>simp [ha]at g
    |some q=>
     obtain⟨v,x⟩:=q;simp only [ha]at g
     cases x with
     |none=>
      simp only [h0V]at g;subst g;refine⟨rfl,fun _=>⟨rfl,rfl,fun lv2 h2=>by simp [dE,hw,ha]⟩,?_,?_,?_,?_,?_,?_⟩<;>intro j<;>simp at j
     |some x=>
      simp only at g;split at g
      case h_2=>cases g
      rename_i L;simp only [h0V]at g;subst g;refine⟨rfl,?_,?_,?_,?_,?_,?_,fun _=>⟨rfl,n,x,rfl,L,d3C ha,rfl,fun lv2 h2 K=>by simp [dE,hw,ha,K]⟩⟩<;>intro j<;>simp at j
theorem rO.appA(i:qS E cf){rs:Option Nat}{o:Oper}{F:FF}{h:Heap}{e:Ef}(r:rO F)(p:dE E f cf ops true rs o F.tm F.lv h=some e):rO (F.app o.dst e):=by
 cases rs with
 |none=>exact r.app i p
 |some n=>
  have g:e.loc=none/\e.box=false/\∀tv,e.v=some tv->(∃x,tv= .v x) \/tv= .u:=by
   rcases yW p with rfl| ⟨v,l,rfl⟩| ⟨v,x,l,_,rfl⟩
   ·exact⟨rfl,rfl,fun tv e=>by simp at e;exact .inr e.symm⟩
   ·exact⟨rfl,rfl,fun tv e=> .inl (e8W l e)⟩
   ·exact⟨rfl,rfl,fun tv e=> .inl (e8W l e)⟩
  intro k s m j;rw [fJ g.2.1]at j;rw [hH g.2.1,g.1];split at j
  ·rcases g.2.2 _ j with⟨x,hx⟩|hx<;>cases hx
  ·exact r k s m j
theorem g5D(Z:qS E cf){ra ri:Option Nat}{a i:Oper}{F:FF}{h:Heap}{u L:Ef}(hA:rO F)(b5:Oper.apart ops.toArray a i=true)(ha:dE E f cf ops true ra a F.tm F.lv h=some u)
  (hi:dE E f cf ops true ri i (F.app a.dst u).tm (F.app a.dst u).lv u.h=some L) (hcl:jA u.c L.c=false)
  (hra:u.c= .a->L.c= .r-> ∀n id,ra=some n->jO i (bC E F.tm)=some id->n≠id):
  ∃g z,dE E f cf ops true ri i F.tm F.lv h=some g/\dE E f cf ops true ra a (F.app i.dst g).tm (F.app i.dst g).lv g.h=some z/\g.c=L.c/\z.c=u.c/\
   (F.app i.dst g).app a.dst z=(F.app a.dst u).app i.dst L/\z.h=L.h/\z.v=u.v:=by
 obtain⟨s1,s2,s3⟩:=Oper.apart_spec b5;obtain⟨ab,ap,al,a0,ar,ae,ax,aa⟩:=eO Z ha;have b3:dE E f cf ops true ri i (F.app a.dst u).tm (F.app a.dst u).lv u.h=dE E f cf ops true ri i F.tm (F.app a.dst u).lv u.h:=by
  refine tE (fun t ht=>?_);rw [fJ ab];rw [if_neg (fun e=>s1 t e ht)]
 rw [b3]at hi;obtain⟨ib,ip,il,c1,ir,ie,ix,ia⟩:=eO Z hi;have c5:u.loc=none->(F.app a.dst u).lv=F.lv:=fun e=>funext fun k=>by rw [hH ab,e]
 have X:u.loc=none\/ ∃s cs,u.loc=some (s,cs)/\((u.c= .s/\∃c0,F.lv s=some c0) \/ (u.c= .b/\a.dst=some s/\F.lv s=none)):=by
  cases hc:u.c with
  |p=>exact .inl (ap hc).1
  |l=>exact .inl (al hc).1
  |r=>exact .inl (ar hc).1
  |e=>exact .inl (ae hc).1
  |a=>exact .inl (aa hc).1
  |s=>
   obtain⟨_,t,s,K,cs,_,_,h1,h2,_⟩:=a0 hc;exact .inr ⟨s,cs,h2,.inl ⟨rfl,h1⟩⟩
  |b=>
   obtain⟨_,d,cs,h1,h2,h3,_⟩:=ax hc;exact .inr ⟨d,cs,h2,.inr ⟨rfl,h1,h3⟩⟩
 have a2: ∀k,(F.app a.dst u).lv k=match u.loc with|some (s,cs)=>if k=s then some cs else F.lv k|none=>F.lv k:=fun k=>hH ab k
 have a7: ∀s,(∃cs,F.lv s=some cs)->jA u.c .s=false->(F.app a.dst u).lv s=F.lv s:=by
  rintro s ⟨cs,hs⟩ a5;rw [a2];rcases X with G| ⟨s',cs',G,y|y⟩
  ·rw [G]
  ·rw [y.1]at a5;simp [jA]at a5
  ·rw [G];simp only;rw [if_neg];rintro rfl;rw [y.2.2]at hs;cases hs
 have b1: ∀t s K,t∈i.looksAt ops.toArray->F.tm t=some (.l s K)-> ∃cs,F.lv s=some cs:=fun t s K _ e=>hA t s K e
 obtain⟨g,e1,e2,e3,e4,e5⟩: ∃g,dE E f cf ops true ri i F.tm F.lv h=some g/\g.c=L.c/\g.v=L.v/\g.loc=L.loc/\((L.c= .e/\g.h=L.h/\u.h=h) \/ ((L.c≠ .e/\L.c≠ .a)/\g.h=h/\L.h=u.h) \/ (L.c= .a/\∃n x,x≠ .free/\h.get n= .free/\u.h.get n= .free/\g.h=h.set n x/\L.h=u.h.set n x)):=by
  cases hc:L.c with
  |p=>
   obtain⟨p1,D,A⟩:=ip hc;exact⟨_,A F.lv h,hc,rfl,rfl,.inr (.inl ⟨by simp,rfl,D⟩)⟩
  |l=>
   obtain⟨p1,D,t,s,K,m,j,q3,A⟩:=il hc;have y:(F.app a.dst u).lv s=F.lv s:=by
    rw [a2];rcases X with G| ⟨s',cs',G,y|y⟩
    ·rw [G]
    ·rw [y.1,hc]at hcl;simp [jA]at hcl
    ·rw [G];simp only;rw [if_neg];rintro rfl;obtain⟨c0,h0⟩:=b1 t _ K m j;rw [y.2.2]at h0;cases h0
   exact⟨_,A F.lv h y.symm,hc,rfl,rfl,.inr (.inl ⟨by simp,rfl,D⟩)⟩
  |s=>
   obtain⟨D,t,s,K,cs,m,j,q3,q4,A⟩:=c1 hc;have y:(F.app a.dst u).lv s=F.lv s:=a7 s (b1 t s K m j) (by rw [hc]at hcl;exact hcl);exact⟨_,A F.lv h y.symm,hc,rfl,rfl,.inr (.inl ⟨by simp,rfl,D⟩)⟩
  |b=>
   obtain⟨D,d,cs,m,j,q3,A⟩:=ix hc;have y:F.lv d=none:=by
    rw [a2]at q3;rcases X with G| ⟨s',cs',G,y⟩
    ·rw [G]at q3;exact q3
    ·rw [G]at q3;simp only at q3;split at q3
     ·cases q3
     ·exact q3
   exact⟨_,A F.lv h y,hc,rfl,rfl,.inr (.inl ⟨by simp,rfl,D⟩)⟩
  |r=>
   obtain⟨p1,D,A,p4⟩:=ir hc;have b2:mP u.h h (jO i (bC E F.tm)):=by
    cases hca:u.c with
    |p=>rw [(ap hca).2.1];exact jB _ _
    |l=>rw [(al hca).2.1];exact jB _ _
    |s=>rw [(a0 hca).1];exact jB _ _
    |b=>rw [(ax hca).1];exact jB _ _
    |r=>rw [(ar hca).2.1];exact jB _ _
    |e=>rw [hca,hc]at hcl;simp [jA]at hcl
    |a=>
     obtain⟨_,n,x,m,j,q3,q4,_⟩:=aa hca
     cases hid:jO i (bC E F.tm)with
     |none=>trivial
     |some id=>
      have:=hra hca hc n id m hid;show h.get id=u.h.get id;rw [q4,Heap.get_set,if_neg (fun e=>this e.symm)]
   exact⟨_,A F.lv h b2,hc,rfl,rfl,.inr (.inl ⟨by simp,rfl,D⟩)⟩
  |a=>
   obtain⟨p1,n,x,m,j,q3,q4,A⟩:=ia hc;have hf:h.get n= .free:=by
    cases hca:u.c with
    |p=>rw [(ap hca).2.1]at j;exact j
    |l=>rw [(al hca).2.1]at j;exact j
    |s=>rw [(a0 hca).1]at j;exact j
    |b=>rw [(ax hca).1]at j;exact j
    |r=>rw [(ar hca).2.1]at j;exact j
    |e=>rw [hca,hc]at hcl;simp [jA]at hcl
    |a=>
     obtain⟨_,n',x',_,_,r3,r4,_⟩:=aa hca;rw [r4,Heap.get_set]at j;split at j
     ·exact absurd j r3
     ·exact j
   exact⟨_,A F.lv h hf,hc,rfl,rfl,.inr (.inr ⟨rfl,n,x,q3,hf,j,rfl,q4⟩)⟩
  |e=>
   obtain⟨p1,A⟩:=ie hc;have hh:u.h=h:=by
    cases hca:u.c with
    |p=>exact(ap hca).2.1
    |l=>exact(al hca).2.1
    |s=>exact(a0 hca).1
    |b=>exact(ax hca).1
    |r=>rw [hca,hc]at hcl;simp [jA]at hcl
    |e=>rw [hca,hc]at hcl;simp [jA]at hcl
    |a=>rw [hca,hc]at hcl;simp [jA]at hcl
   have:=A F.lv;rw [hh]at this;exact⟨_,this,hc,rfl,rfl,.inl ⟨rfl,rfl,hh⟩⟩
 obtain⟨a3,b9,b4,b7,c3,b6,c2,b8⟩:=eO Z e1;have a8:dE E f cf ops true ra a (F.app i.dst g).tm (F.app i.dst g).lv g.h=dE E f cf ops true ra a F.tm (F.app i.dst g).lv g.h:=by
  refine tE (fun t ht=>?_);rw [fJ a3];rw [if_neg (fun e=>s3 t e ht)]
 have T:g.loc=none\/ ∃s cs,g.loc=some (s,cs)/\((g.c= .s/\∃c0,F.lv s=some c0) \/ (g.c= .b/\i.dst=some s/\F.lv s=none)):=by
  cases hc:g.c with
  |p=>exact .inl (b9 hc).1
  |l=>exact .inl (b4 hc).1
  |r=>exact .inl (c3 hc).1
  |e=>exact .inl (b6 hc).1
  |a=>exact .inl (b8 hc).1
  |s=>
   obtain⟨_,t,s,K,cs,_,_,h1,h2,_⟩:=b7 hc;exact .inr ⟨s,cs,h2,.inl ⟨rfl,h1⟩⟩
  |b=>
   obtain⟨_,d,cs,h1,h2,h3,_⟩:=c2 hc;exact .inr ⟨d,cs,h2,.inr ⟨rfl,h1,h3⟩⟩
 have a6: ∀k,(F.app i.dst g).lv k=match g.loc with|some (s,cs)=>if k=s then some cs else F.lv k|none=>F.lv k:=fun k=>hH a3 k
 have O:jA u.c g.c=false:=by rw [e2];exact hcl
 have Y: ∀s,(∃cs,F.lv s=some cs)->g.c≠ .s->(F.app i.dst g).lv s=F.lv s:=by
  rintro s ⟨cs,hs⟩ a5;rw [a6];rcases T with G| ⟨s',cs',G,y|y⟩
  ·rw [G]
  ·exact absurd y.1 a5
  ·rw [G];simp only;rw [if_neg];rintro rfl;rw [y.2.2]at hs;cases hs
 obtain⟨z,g1,g2,g3,g4,g5⟩: ∃z,dE E f cf ops true ra a F.tm (F.app i.dst g).lv g.h=some z/\z.c=u.c/\z.v=u.v/\z.loc=u.loc/\z.h=L.h:=by
  cases hc:u.c with
  |p=>
   obtain⟨p1,D,A⟩:=ap hc;refine⟨_,A _ _,hc,rfl,rfl,?_⟩;rcases e5 with⟨_,m,_⟩| ⟨_,m,j⟩| ⟨_,n,x,_,_,_,m,j⟩
   ·exact m
   ·show g.h=_;rw [m,j,D]
   ·show g.h=_;rw [m,j,D]
  |l=>
   obtain⟨p1,D,t,s,K,t1,t2,t3,A⟩:=al hc;refine⟨_,A _ _ (Y s t3 (fun e=>by rw [hc,e]at O;simp [jA]at O)),hc,rfl,rfl,?_⟩;rcases e5 with⟨_,m,_⟩| ⟨_,m,j⟩| ⟨_,n,x,_,_,_,m,j⟩
   ·exact m
   ·show g.h=_;rw [m,j,D]
   ·show g.h=_;rw [m,j,D]
  |s=>
   obtain⟨D,t,s,K,cs,t1,t2,t3,t4,A⟩:=a0 hc;refine⟨_,A _ _ (Y s t3 (fun e=>by rw [hc,e]at O;simp [jA]at O)),hc,rfl,rfl,?_⟩;rcases e5 with⟨_,m,_⟩| ⟨_,m,j⟩| ⟨_,n,x,_,_,_,m,j⟩
   ·exact m
   ·show g.h=_;rw [m,j,D]
   ·show g.h=_;rw [m,j,D]
  |b=>
   obtain⟨D,d,cs,t1,t2,t3,A⟩:=ax hc;have y:(F.app i.dst g).lv d=none:=by
    rw [a6];rcases T with G| ⟨s',cs',G,y|y⟩
    ·rw [G];exact t3
    ·rw [G];simp only;rw [if_neg]
     ·exact t3
     ·rintro rfl;obtain⟨c0,b0⟩:=y.2;rw [t3]at b0;cases b0
    ·rw [G];simp only;rw [if_neg]
     ·exact t3
     ·rintro rfl;exact s2 _ t1 y.2.1
   refine⟨_,A _ _ y,hc,rfl,rfl,?_⟩;rcases e5 with⟨_,m,_⟩| ⟨_,m,j⟩| ⟨_,n,x,_,_,_,m,j⟩
   ·exact m
   ·show g.h=_;rw [m,j,D]
   ·show g.h=_;rw [m,j,D]
  |r=>
   obtain⟨p1,D,A,p4⟩:=ar hc;rcases e5 with⟨q0,m,_⟩| ⟨_,m,j⟩| ⟨_,n,x,_,q5,_,m,j⟩
   ·rw [hc,q0]at hcl;simp [jA]at hcl
   ·rw [m];exact⟨_,A _ h (jB _ _),hc,rfl,rfl,by show h=L.h;rw [j,D]⟩
   ·rw [m];refine⟨_,A _ _ ?_,hc,rfl,rfl,by show h.set n x=L.h;rw [j,D]⟩
    cases hid:jO a (bC E F.tm)with
    |none=>trivial
    |some id=>
     have:=p4 id hid;show(h.set n x).get id=h.get id;rw [Heap.get_set,if_neg (fun e=>this (by rw [e];exact q5))]
  |e=>
   obtain⟨p1,A⟩:=ae hc;rcases e5 with⟨q0,m,_⟩| ⟨_,m,j⟩| ⟨q0,_⟩
   ·rw [hc,q0]at hcl;simp [jA]at hcl
   ·rw [m];exact⟨_,A _,hc,rfl,rfl,j.symm⟩
   ·rw [hc,q0]at hcl;simp [jA]at hcl
  |a=>
   obtain⟨p1,n',x',D,A,p4,p5,p6⟩:=aa hc;rcases e5 with⟨q0,m,_⟩| ⟨_,m,j⟩| ⟨_,n,x,q4,q5,q6,m,j⟩
   ·rw [hc,q0]at hcl;simp [jA]at hcl
   ·rw [m];exact⟨_,p6 _ h A,hc,rfl,rfl,by show h.set n' x'=L.h;rw [j,p5]⟩
   ·have a4:n'≠n:=by
     rintro rfl;rw [p5,Heap.get_set,if_pos rfl]at q6;exact p4 q6
    rw [m];refine⟨_,p6 _ (h.set n x) (by rw [Heap.get_set,if_neg a4];exact A),hc,rfl,rfl,?_⟩;show(h.set n x).set n' x'=L.h;rw [j,p5,Heap.set_comm _ _ _ a4]
 rw [<-a8]at g1;have a9:z.box=false:=(eO Z g1).1;refine⟨g,z,e1,g1,e2,g2,?_,g5,g3⟩;refine FF.ext' (fun k=>?_) (fun k=>?_)
 ·rw [fJ a9,fJ a3,fJ ib,fJ ab,e3,g3]
  by_cases h1:a.dst=some k
  ·have h2:i.dst≠some k:=s2 k h1;simp [h1,h2]
  ·simp [h1]
 ·rw [hH a9,hH a3,hH ib,hH ab,e4,g4];rcases X with G| ⟨s,cs,G,y⟩
  ·rw [G]
  ·rcases T with a1| ⟨s',cs',a1,V⟩
   ·rw [e4]at a1;rw [a1]
   ·rw [e4]at a1;rw [G,a1];simp only;have a4:s≠s':=by
     rintro rfl;rcases y with y|y<;>rcases V with V|V
     ·rw [y.1,V.1]at O;simp [jA]at O
     ·obtain⟨c0,h0⟩:=y.2;rw [V.2.2]at h0;cases h0
     ·obtain⟨c0,h0⟩:=V.2;rw [y.2.2]at h0;cases h0
     ·exact s2 _ y.2.1 V.2.1
    by_cases h1:k=s
    ·subst h1;simp [a4]
    ·simp [h1]
theorem d0D{rs:Option Nat}{o:Oper}{g:Nat->Option TV}{lv:Nat->Option (List IV)}{h h2:Heap}{e:Ef}(j:dE E f cf ops true rs o g lv h=some e)(l:e.c= .r){v:TV}(u:dP E o (bC E g) h2=some v)(i:e.v=some v):
  dE E f cf ops true rs o g lv h2=some {e with h:=h2 } :=by
 cases rs with
 |none=>
  obtain⟨y,_,p,m⟩:=a2K (h2:=h2) j l;rw [p]at i;simp only [h0V]at i;subst i;exact m u lv
 |some n=>
  exfalso;rcases yW j with rfl| ⟨v,ha,rfl⟩| ⟨v,x,ha,_,rfl⟩<;>cases l
theorem g0F(l:qS E cf){y z:Option Nat}{a i:Oper}{F:FF}{h:Heap}{j g:Ef}(K:Oper.apart ops.toArray a i=true)(ha:dE E f cf ops true y a F.tm F.lv h=some j)
  (hi:dE E f cf ops true z i (F.app a.dst j).tm (F.app a.dst j).lv j.h=some g) (hac:j.c= .r) (hic:g.c= .e) (hsame:dE E f cf ops true y a F.tm F.lv g.h=some {j with h:=g.h }):
  dE E f cf ops true z i F.tm F.lv h=some g/\dE E f cf ops true y a (F.app i.dst g).tm (F.app i.dst g).lv g.h=some {j with h:=g.h } /\
   (F.app i.dst g).app a.dst {j with h:=g.h } =(F.app a.dst j).app i.dst g:=by
 obtain⟨s1,X,s3⟩:=Oper.apart_spec K;obtain⟨p,ap,al,a0,ar,ae,ax,aa⟩:=eO l ha;obtain⟨A,T,_,_⟩:=ar hac;have L:(F.app a.dst j).lv=F.lv:=funext fun k=>by rw [hH p,A]
 have V:dE E f cf ops true z i (F.app a.dst j).tm (F.app a.dst j).lv j.h=dE E f cf ops true z i F.tm (F.app a.dst j).lv j.h:=by
  refine tE (fun t G=>?_);rw [fJ p];rw [if_neg (fun e=>s1 t e G)]
 rw [V,L,T]at hi;obtain⟨m,ip,il,Z,ir,Y,ix,ia⟩:=eO l hi;obtain⟨u,_⟩:=Y hic;have D:(F.app i.dst g).lv=F.lv:=funext fun k=>by rw [hH m,u]
 have O:dE E f cf ops true y a (F.app i.dst g).tm (F.app i.dst g).lv g.h=dE E f cf ops true y a F.tm (F.app i.dst g).lv g.h:=by
  refine tE (fun t G=>?_);rw [fJ m];rw [if_neg (fun e=>s3 t e G)]
 refine⟨hi,by rw [O,D];exact hsame,FF.ext' (fun k=>?_) (fun k=>?_)⟩
 ·rw [fJ (e:= {j with h:=g.h }) p,fJ m,fJ m,fJ p]
  by_cases h1:a.dst=some k
  ·have h2:i.dst≠some k:=X k h1;simp [h1,h2]
  ·simp [h1]
 ·rw [hH (e:= {j with h:=g.h }) p,hH m,hH m,hH p,u]
end
structure FR(M:Meta)(h:Heap)(w:World)(B n:Nat)(F:FF)(a:Act)(pb:Nat->Nat):Prop where
 size:n<=a.tmps.size
 tm: ∀t tv,F.tm t=some tv->TR M pb tv (a.tmps.getD t undef)
 loc: ∀s cs,F.lv s=some cs->B<=pb s/\¬Wr M h (pb s)/\(∀o,M.im (pb s) o=none)/\∃rc el fz,w.heap[pb s]?=some (.cells rc el fz)/\(∀i,i<rc.size->w.frozen? ⟨pb s,i,none⟩=false)/\eB M cs rc.toList
 one: ∀s s' cs cs',F.lv s=some cs->F.lv s'=some cs'->pb s=pb s'->s=s'
 addr: ∀k s off,F.tm k=some (.l s off)-> ∃cs,F.lv s=some cs
def GOK(E:Env)(M:Meta):Prop:= ∀g cs,E.G g=some cs->VR M.pure (.vref cs 0) (.pointer (some ⟨g,0,none⟩))
theorem Ext.pures{M M':Meta}(j:Ext M M'):Ext M.pure M'.pure:=⟨h1D _,fun _ _ e=>(by cases e),j.im,j.bsz,fun i g=>absurd g (h4Q i),fun i g=>absurd g (h4Q i)⟩
theorem Ext.pure(M:Meta):Ext M.pure M:=⟨h1N _,fun _ _ e=>(by cases e),fun _ _ _ e=>e,fun _ _ e=>e,fun i g=>absurd g (h4Q i),fun i g=>absurd g (h4Q i)⟩
theorem GOK.mono{E:Env}{M M':Meta}(i:Ext M M')(h:GOK E M):GOK E M':=fun g cs e=>(h g cs e).mono i.pures
def b4D(E:Env)(cf:FuncId->List IV->Heap->Option (IV×Heap)):Prop:=
 ∀ g xs h v h', cf g xs h = some (v, h') → (∃ fn, E.P.funcs[g]? = some fn ∧ fn.body.isNone = false ∧ (fn.name == "runtime.NumGoroutine") = false) ∧ ∀ M w rs, Inv M h w → GOK E M → cW M xs rs →
  Calls E.P g rs.toArray w fun e w'=> ∃r M',e= .returned r/\VR M' v r/\Inv M' h' w'/\Pres w.heap.size M h w M' h' w'
section
variable {E:Env} {M M':Meta} {h h':Heap} {w w':World} {B n:Nat} {F:FF} {a:Act} {pb:Nat->Nat}
theorem TR.mono(i:Ext M M'){tv:TV}{r:Value}(g:TR M pb tv r):TR M' pb tv r:=by
 cases tv with
 |v x=>exact VR.mono i g
 |l s off=>exact g
 |u=>exact g
theorem c5J(l:GOK E M)(j:FR M h w B n F a pb): ∀x tv,bC E F.tm x=some tv->TR M pb tv (a.eval x):=by
 intro x tv i
 cases x with
 |tmp t=>exact j.tm t tv i
 |const v=>
  simp only [bC]at i;obtain⟨y,h1,h2⟩:=h0W.1 i;subst h2;exact(uQ (M:=M) h1).1
 |global g=>
  simp only [bC]at i;obtain⟨y,h1,h2⟩:=h0W.1 i;subst h2;exact(l g y h1).mono (Ext.pure M)
 |func g=>
  simp [bC]at i;subst i;exact a2G (cW.nil M) (cW.nil M)
theorem FR.step(g:FR M h w B n F a pb)(j:Pres w.heap.size M h w M' h' w'):FR M' h' w' B n F a pb where
 size:=g.size
 tm:=fun t tv e=>(g.tm t tv e).mono j.ext
 loc:=fun s cs e=>by
  obtain⟨h1,h2,h3,rc,u,fz,h4,m,p⟩:=g.loc s cs e;obtain⟨l,y,z⟩:=j.keep (pb s) (cL h4) h2;exact⟨h1,y,fun o=>(z o).trans (h3 o),rc,u,fz,l.trans h4,fun i r=>(lA l).trans (m i r),p.mono j.ext⟩
 one:=g.one
 addr:=g.addr
theorem b4E(t:Array Value)(d k:Nat)(r:Value)(hd:d<t.size):(t.setIfInBounds d r).getD k undef=if k=d then r else t.getD k undef:=by
 simp only [h3G,h3F]
 by_cases hk:k=d
 ·subst hk;simp [hd]
 ·rw [if_neg (fun e=>hk e.symm),if_neg hk]
theorem FR.put(i:FR M h w B n F a pb){d:Option Tmp}(hd: ∀t,d=some t->t<n){v:Option TV}{r:Value}(j: ∀tv,v=some tv->TR M pb tv r)(p: ∀s g,v=some (.l s g)-> ∃cs,F.lv s=some cs):FR M h w B n (F.put d v) (a.put d r) pb:=by
 cases d with
 |none=>exact i
 |some t=>
  have u:=hd t rfl;have m:=i.size;refine⟨by simpa [Act.put]using i.size,fun k tv e=>?_,i.loc,i.one,fun k s g e=>?_⟩
  case refine_2=>
   simp only [FF.put]at e
   by_cases hk:k=t
   ·rw [if_pos hk]at e;exact p s g e
   ·rw [if_neg hk]at e;exact i.addr k s g e
  simp only [FF.put]at e;simp only [Act.put];rw [b4E _ _ _ _ (h1C u m)]
  by_cases hk:k=t
  ·rw [if_pos hk]at e⊢;exact j tv e
  ·rw [if_neg hk]at e⊢;exact i.tm k tv e
theorem Inv.apart(g:Inv M h w){b:Nat}(l: ¬Wr M h b)(u: ∀o,M.im b o=none)(j: ∀k,k≠b->k<w.heap.size->w'.heap[k]?=w.heap[k]?)(y:w.heap.size<=w'.heap.size):Inv M h w' where
 nid:=g.nid
 fresh:=g.fresh
 freshl:=g.freshl
 cells:=fun id cs e=>by
  obtain⟨c,rc,h1,h2,h3⟩:=g.cells id cs e;have i:c≠b:=fun e'=>l ⟨id,by simp [Wb,e,h1,e']⟩
  exact⟨c,rc,h1,h2.keep (j c i h2.lt) rfl,h3⟩
 tips:=fun id n e=>by
  obtain⟨r,c,e',rc,h1,h2,h3⟩:=g.tips id n e;have i:c≠b:=fun e'=>l ⟨id,by simp [Wb,e,h1,e']⟩
  exact⟨r,c,e',rc,h1,h2.keep (j c i h2.lt) rfl,h3⟩
 maps:=fun id p e=>by
  obtain⟨c,ents,m,h1,h2,h3⟩:=g.maps id p e;have i:c≠b:=fun e'=>l ⟨id,by simp [Wb,e,h1,e']⟩
  exact⟨c,ents,m,h1,(j c i (cL h2)).trans h2,h3⟩
 im:=fun c o v e=>by
  have i:c≠b:=fun e'=>by subst e';rw [u]at e;simp at e
  rw [oD (j c i (g.im_lt e))];exact g.im c o v e
 bsz:=fun c n e=>by have:=g.bsz c n e;omega
 one:=g.one
 resv:=g.resv
structure Nxt(E:Env)(B n:Nat)(M:Meta)(h:Heap)(w:World)(a:Act)(F':FF)(h':Heap)(a':Act)(w':World)(M':Meta)(pb':Nat->Nat):Prop where
 fr:FR M' h' w' B n F' a' pb'
 inv:Inv M' h' w'
 glob:GOK E M'
 pres:Pres B M h w M' h' w'
 defers:a'.defers=a.defers
theorem a7Q{ops:List Oper}{o:Oper}{b:Bool}(u:FR M h w B n F a pb)(g:dD ops F.tm o=some b):Region.wanted o (yielded ops.toArray a.tmps)=b:=by
 unfold dD at g;unfold Region.wanted
 cases hg:o.guard with
 |none=>simp [hg]at g;simp [g]
 |some q=>
  obtain⟨j,c⟩:=q;simp only [hg]at g⊢;split at g
  case h_2=>simp at g
  rename_i d hd;split at g
  case h_3=>simp at g
  case h_2=>
   rename_i p;simp at g;subst g;have i:a.tmps.getD d undef=undef:=u.tm d _ p;have l:yielded ops.toArray a.tmps j=none:=by
    simp only [yielded,h4I,hd,Option.bind_some];rw [h3G]at i
    cases hq:a.tmps[d]? with
    |none=>rfl
    |some y=>rw [hq]at i;simp at i;subst i;rfl
   rw [l];rfl
  rename_i x p;simp at g;subst g;have i:VR M (.bool x) (a.tmps.getD d undef):=u.tm d _ p;generalize hr:a.tmps.getD d undef=r at i
  cases i
  have m:a.tmps[d]?=some (.bool x):=by
   rw [h3G]at hr
   cases hq:a.tmps[d]? with
   |none=>rw [hq]at hr;simp [undef]at hr
   |some y=>rw [hq]at hr;simp at hr;rw [hr]
  have l:yielded ops.toArray a.tmps j=some x:=by
   simp only [yielded,h4I,hd,Option.bind_some,m]
  rw [l]
  cases x<;>cases c<;>rfl
theorem f1Q{f:FuncId}{cf:FuncId->List IV->Heap->Option (IV×Heap)}{ops:List Oper}{draw:Bool}{o:Oper}{e:Ef}(d4:b4D E cf)(hG:GOK E M)(hI:Inv M h w)(G:FR M h w B n F a pb)(hB:B<=w.heap.size)
  (hd: ∀t,o.dst=some t->t<n) (he:uN E f cf ops draw o F.tm F.lv h=some e) (Q:Exit->Act->World->Prop) (K:Act->World->Prop)
  (hK: ∀a' w' M' pb',Nxt E B n M h w a (F.app o.dst e) e.h a' w' M' pb'->K a' w'):
  if Region.wanted o (yielded ops.toArray a.tmps)then o.wp E.P a w K Q\/ (o.asks E.P a w/\LetsOut Q)else K (a.put o.dst undef) w:=by
 have hev:=c5J hG G;have A: ∀(d:Option Tmp)(r:Value),(a.put d r).defers=a.defers:=fun d r=>by cases d<;>rfl
 unfold uN at he
 cases hw:dD ops F.tm o with
 |none=>simp [hw]at he
 |some b=>
  rw [a7Q G hw];simp only [hw]at he
  cases b with
  |false=>
   simp only [h0V]at he;subst he;simp only [h1X,if_false];refine hK _ _ M pb ⟨?_,hI,hG,Pres.refl _ _ _ _,A _ _⟩;exact G.put hd (fun tv e=>by simp at e;subst e;exact rfl) (fun s m e=>by simp at e)
  |true=>
   simp only at he;simp only [if_true];refine .inl ?_;unfold Oper.wp
   unfold dX at he
   cases hp:eN E f o (bC E F.tm)with
   |some q=>
    obtain⟨v,bx⟩:=q;simp only [hp]at he;rcases e4U (E:=E) (M:=M) (w:=w) (pb:=pb) hI.im hev hp with⟨rfl,r,hr,hv⟩| ⟨cs,d,rc,el,rfl,O,rfl,hr,hc⟩| ⟨rfl,c5⟩
    ·simp only [h0V]at he;subst he;rw [hr];refine hK _ _ M pb ⟨?_,hI,hG,Pres.refl _ _ _ _,A _ _⟩;exact G.put hd (fun tv e=>by simp at e;subst e;exact hv) (fun s m e=>by
      simp only [h0V]at e;subst e;obtain⟨x,o',T⟩:=d2Z hp
      cases x with
      |tmp t=>exact G.addr t s o' T
      |const c=>simp only [bC]at T;obtain⟨y,_,h2⟩:=h0W.1 T;cases h2
      |global g=>simp only [bC]at T;obtain⟨y,_,h2⟩:=h0W.1 T;cases h2
      |func g=>simp [bC]at T)
    ·simp only [O]at he;have c6: ∃c bb,e=⟨c,some (.l d 0),some (d,cs),bb,h⟩/\(bb=true\/F.lv d=none):=by
      split at he
      ·split at he
       ·rename_i L;simp only [h0V]at he;exact⟨_,_,he.symm,.inr L⟩
       ·simp at he
      ·simp only [h0V]at he;exact⟨_,_,he.symm,.inl rfl⟩
     obtain⟨c,bb,rfl,e5⟩:=c6;have b8: ∀t tv,(F.app (some d) ⟨c,some (.l d 0),some (d,cs),bb,h⟩).tm t=some tv->(t=d/\tv= .l d 0) \/ (t≠d/\F.tm t=some tv/\rF d tv=true):=by
      intro t tv V
      by_cases D:t=d
      ·left
       refine⟨D,?_⟩;subst D
       cases bb with
       |true=>
        simp only [FF.app,if_true,FF.put,FF.lset,FF.clr,h0V]at V;exact V.symm
       |false=>
        simp only [FF.app,h1X,if_false,if_true,FF.put,FF.lset,h0V]at V;exact V.symm
      ·right
       refine⟨D,?_⟩
       cases bb with
       |true=>
        simp only [FF.app,if_true,FF.put,FF.lset,FF.clr,if_neg D]at V;split at V
        case h_2=>simp at V
        rename_i x T;split at V
        case isFalse=>simp at V
        rename_i b1;simp only [h0V]at V;subst V;exact⟨T,b1⟩
       |false=>
        simp only [FF.app,h1X,if_false,FF.put,FF.lset,if_neg D]at V;refine⟨V,?_⟩
        cases tv with
        |v y=>rfl
        |u=>rfl
        |l s m=>
         obtain⟨f5,h2⟩:=G.addr t s m V;have hn:=e5.resolve_left (by simp);have:s≠d:=fun e=>by subst e;rw [hn]at h2;cases h2
         simpa [rF]using this
     have L: ∀s,(F.app (some d) ⟨c,some (.l d 0),some (d,cs),bb,h⟩).lv s=if s=d then some cs else F.lv s:=by
      intro s
      cases bb<;>simp [FF.app,FF.put,FF.lset,FF.clr]
     rw [hr];simp only [Oper.upon];have nb:=NewBlk.alloc w (.cells rc el);have c8: ¬Wr M h w.heap.size:=by
      rintro⟨id,e⟩;have:=hI.wb_lt e;omega
     have a8: ∀m,M.im w.heap.size m=none:=by
      intro m
      cases e:M.im w.heap.size m with
      |none=>rfl
      |some v=>have:=hI.im_lt e;omega
     have b9:Inv M h (w.alloc (.cells rc el)):=hI.apart c8 a8 (fun k _ a5=>nb.old k a5) (by rw [nb.size];omega);refine hK _ _ M (fun s=>if s=d then w.heap.size else pb s) ⟨?_,b9,hG,⟨Ext.refl M,by rw [nb.size];omega,rfl,rfl,rfl,fun k D hn=>⟨nb.old k (by omega),hn,fun _=>rfl⟩⟩,A _ _⟩;have d6:=G.size;have f0:=hd d O;refine⟨?_,?_,?_,?_,?_⟩
     ·rw [O];simpa [Act.put]using G.size
     ·intro t tv V;rw [O]at V⊢;simp only [Act.put];rw [b4E _ _ _ _ (h1C f0 d6)];rcases b8 t tv V with⟨D,rfl⟩| ⟨D,T,b1⟩
      ·rw [if_pos D];simp [TR]
      ·rw [if_neg D];have:=G.tm t tv T
       cases tv with
       |v y=>exact this
       |l s m=>
        have d8:s≠d:=by simpa [rF]using b1
        simpa [TR,d8]using this
       |u=>exact this
     ·intro s cs' es;rw [O,L]at es
      by_cases D:s=d
      ·rw [if_pos D]at es⊢;simp only [h0V]at es;subst es;exact⟨hB,c8,a8,rc,el,(0,0),nb.new,fun i hi=>iP nb.new (.inl (h1D _)) i hi,hc⟩
      ·rw [if_neg D]at es⊢;obtain⟨h1,h2,h3,a3,b6,c0,h4,h5,h6⟩:=G.loc s cs' es;have a5:=cL h4;exact⟨h1,h2,h3,a3,b6,c0,(nb.old _ a5).trans h4,fun i hi=>(lA (nb.old _ a5)).trans (h5 i hi),h6⟩
     ·intro s s' c1 c2 e1 e2 e3;rw [O,L]at e1 e2
      by_cases D:s=d
      ·by_cases hk':s'=d
       ·rw [D,hk']
       ·rw [if_neg hk']at e2 e3;rw [if_pos D]at e3;obtain⟨_,_,_,a3,b6,c0,h4,_⟩:=G.loc s' c2 e2;have:=cL h4;omega
      ·rw [if_neg D]at e1 e3
       by_cases hk':s'=d
       ·rw [if_pos hk']at e3;obtain⟨_,_,_,a3,b6,c0,h4,_⟩:=G.loc s c1 e1;have:=cL h4;omega
       ·rw [if_neg hk']at e2 e3;exact G.one s s' c1 c2 e1 e2 e3
     ·intro k s m e;rw [O]at e⊢;rw [L]
      by_cases D:s=d
      ·exact⟨cs,by rw [if_pos D]⟩
      ·rw [if_neg D];rcases b8 k _ e with⟨_,c9⟩| ⟨_,T,_⟩
       ·simp at c9;exact absurd c9.1 D
       ·exact G.addr k s m T
    ·simp only [h0V]at he;subst he;obtain⟨w',M',x,r,rfl,hr,h2,g1,g2⟩:=c5 h hI;rw [hr];have a1:=G.step g2;refine hK _ _ M' pb ⟨?_,g1,hG.mono g2.ext,g2.mono hB,A _ _⟩;exact a1.put hd (fun tv e=>by simp at e;subst e;exact h2) (fun s m e=>by simp at e)
   |none=>
    simp only [hp]at he
    cases hl:gD E o (bC E F.tm) F.lv with
    |some v=>
     simp only [hl,h0V]at he;subst he;obtain⟨t,ad,s,m,X,T⟩:=a7O hl;simp only [gD,X,T]at hl;split at hl
     case h_2=>simp at hl
     rename_i cs L;obtain⟨y,h1,h2⟩:=h0W.1 hl;subst h2;obtain⟨_,_,_,rc,el,fz,h4,h5,h6⟩:=G.loc s cs L;have a4:a.eval ad= .pointer (some ⟨pb s,m,none⟩):=hev _ _ T;obtain⟨r,h7,h8⟩:=wD (P:=E.P) (w:=w) (b:=pb s) (base:=0) h6 (fun i hi=>by simp [World.cell?,h4,show i<rc.size by simpa using hi]) h1;have hr:(execOp a.eval o).run E.P w= .ok (.value r) w:=by
      simp only [execOp,X,a4,Instr.loadAt,Instr.sureAddr];exact cD _ _ (by simpa using h7)
     rw [hr];refine hK _ _ M pb ⟨?_,hI,hG,Pres.refl _ _ _ _,A _ _⟩;exact G.put hd (fun tv e=>by simp at e;subst e;exact h8) (fun s m e=>by simp at e)
    |none=>
     simp only [hl]at he
     cases hs:gZ E o (bC E F.tm) F.lv with
     |some q=>
      obtain⟨s0,cs'⟩:=q;simp only [hs,h0V]at he;subst he;obtain⟨t,ad,x,s,m,X,T⟩:=uT hs;simp only [gZ,X,T]at hs;split at hs
      case h_2=>simp at hs
      rename_i s' f3 v' c3 e7;simp only [h0V,TV.l.injEq]at c3;obtain⟨rfl,rfl⟩:=c3;split at hs
      case h_2=>simp at hs
      rename_i cs L;obtain⟨y,h1,h2⟩:=h0W.1 hs;simp only [h2M]at h2;obtain⟨rfl,rfl⟩:=h2;obtain⟨l1,l2,l3,rc,el,fz,h4,h5,h6⟩:=G.loc s cs L;have a4:a.eval ad= .pointer (some ⟨pb s,m,none⟩):=hev _ _ T;have e4:eB M cs (rc.toList.take cs.length):=by rw [h1H (by have:=h6.len;simp at this⊢;omega)];exact h6
      obtain⟨a3,s1,s2,s3,s4,s5,s6⟩:=b3U (P:=E.P) e4 h4 h5 (bK hev e7) h1;have hr:(execOp a.eval o).run E.P w= .ok .skip (w.setCells (pb s) m (a.eval x).cells.toList):=by
       simp only [execOp,X,a4,Instr.storeAt,Instr.sureAddr];exact b0E _ _ (by simpa using s1)
      rw [hr];simp only [Oper.upon];have a2:=fun k (D:k≠pb s)=>fB (pb s) (a.eval x).cells.toList m w k D
      have Y:=fT (pb s) (a.eval x).cells.toList m w;have f1:=fS (pb s) (a.eval x).cells.toList m w;have a9: ∀c j,(w.setCells (pb s) m (a.eval x).cells.toList).frozen? ⟨c,j,none⟩=w.frozen? ⟨c,j,none⟩:=fun c j=>World.frozen?_setCells _ _ _ _ _
      have b9:Inv M h (w.setCells (pb s) m (a.eval x).cells.toList):=hI.apart l2 l3 (fun k D _=>a2 k D) (by omega);have b4:=G.put (d:=o.dst) (v:=none) (r:=undef) hd (fun tv e=>by simp at e) (fun s m e=>by simp at e);have b8:((F.put o.dst none).lset s y).tm=(F.put o.dst none).tm:=rfl;have Z:(F.put o.dst none).lv=F.lv:=by cases o.dst<;>rfl
      refine hK _ _ M pb ⟨?_,b9,hG,⟨Ext.refl M,by omega,Y.1,Y.2.1,Y.2.2,fun k D hn=>⟨a2 k (by omega),hn,fun _=>rfl⟩⟩,A _ _⟩;refine⟨b4.size,fun t tv V=>b4.tm t tv V,fun z cz ez=>?_,fun z z' c1 c2 e1 e2 e3=>?_,fun k z c7 e=>?_⟩
      case refine_3=>
       obtain⟨cz,hz⟩:=b4.addr k z c7 e;rw [Z]at hz;simp only [FF.app,h1X,if_false,FF.lset,Z]
       by_cases hzs:z=s
       ·exact⟨_,if_pos hzs⟩
       ·exact⟨cz,by rw [if_neg hzs];exact hz⟩
      ·simp only [FF.app,h1X,if_false,FF.lset,Z]at ez
       by_cases hz:z=s
       ·subst hz;rw [if_pos rfl]at ez;simp only [h0V]at ez;subst ez;refine⟨l1,l2,l3,a3,el,fz,s2,fun i hi=>by rw [a9];exact h5 i (by omega),?_⟩;rw [h1H (by have:=h6.len;simp at this⊢;omega)]at s5;exact s5
       ·rw [if_neg hz]at ez;obtain⟨k1,k2,k3,d7,e8,d9,k4,k5,k6⟩:=G.loc z cz ez;have e9:pb z≠pb s:=fun e=>hz (G.one z s cz cs ez L e)
        exact⟨k1,k2,k3,d7,e8,d9,(a2 _ e9).trans k4,fun i hi=>by rw [a9];exact k5 i hi,k6⟩
      ·simp only [FF.app,h1X,if_false,FF.lset,Z]at e1 e2;have g1: ∃c,F.lv z=some c:=by
        by_cases hz:z=s
        ·exact⟨cs,hz▸L⟩
        ·rw [if_neg hz]at e1;exact⟨_,e1⟩
       have g2: ∃c,F.lv z'=some c:=by
        by_cases hz:z'=s
        ·exact⟨cs,hz▸L⟩
        ·rw [if_neg hz]at e2;exact⟨_,e2⟩
       obtain⟨d1,g1⟩:=g1;obtain⟨d2,g2⟩:=g2;exact G.one z z' d1 d2 g1 g2 e3
     |none=>
      simp only [hs]at he
      cases hr:dP E o (bC E F.tm) h with
      |some v=>
       simp only [hr,h0V]at he;subst he;obtain⟨x,r,rfl,h1,h2⟩:=e4T (E:=E) (pb:=pb) hI hev hr;rw [h1];refine hK _ _ M pb ⟨?_,hI,hG,Pres.refl _ _ _ _,A _ _⟩;exact G.put hd (fun tv e=>by simp at e;subst e;exact h2) (fun s m e=>by simp at e)
      |none=>
       simp only [hr]at he
       cases hee:gV E f o (bC E F.tm) h with
       |some q=>
        obtain⟨v,h'⟩:=q;simp only [hee,h0V]at he;subst he;obtain⟨w',M',g1,g2,g3⟩:=c5G (E:=E) (pb:=pb) hI hev hee;have a1:=G.step g2;rcases g3 with⟨x,r,rfl,h1,h2⟩| ⟨rfl,h1⟩
        ·rw [h1];refine hK _ _ M' pb ⟨?_,g1,hG.mono g2.ext,g2.mono hB,A _ _⟩;exact a1.put hd (fun tv e=>by simp at e;subst e;exact h2) (fun s m e=>by simp at e)
        ·rw [h1];refine hK _ _ M' pb ⟨?_,g1,hG.mono g2.ext,g2.mono hB,A _ _⟩;exact a1.put hd (fun tv e=>by simp at e) (fun s m e=>by simp at e)
       |none=>
        simp only [hee]at he
        cases hcl:dJ o (bC E F.tm)with
        |none=>simp [hcl]at he
        |some q=>
         obtain⟨g,xs⟩:=q;simp only [hcl]at he;split at he
         case h_2=>simp at he
         rename_i v h' b3;simp only [h0V]at he;subst he;unfold dJ at hcl;split at hcl
         case h_2=>simp at hcl
         rename_i x a0 f6 X;split at hcl
         case h_2=>simp at hcl
         rename_i g' p q' f4 T d5;simp only [h0V,h2M]at hcl;obtain⟨rfl,rfl⟩:=hcl;have e6:VR M (.func (.func g') p q') (a.eval x):=hev _ _ T;obtain⟨rp,rq,d3,vp,vq⟩:=e4J e6;have b0:=mG hev d5;obtain⟨⟨fn,f2,b7,b5⟩,a7⟩:=d4 g' _ _ _ _ b3;have hc:=a7 M w (rp++a0.toList.map a.eval++rq) hI hG ((vp.append b0).append vq);have d0:(execOp a.eval o).run E.P w=(callFunc g' (rp++a0.toList.map a.eval++rq).toArray).run E.P w:=by
          simp only [execOp,X,resolve,d3,Deferred.ofValue,h1K,h1R,h1F,invoke]
          congr 2
          apply h4V;simp
         have a6:(callFunc g' (rp++a0.toList.map a.eval++rq).toArray).run E.P w= .ok (.enter g' (rp++a0.toList.map a.eval++rq).toArray) w:=by
          simp only [callFunc,h1K,run_program,h1F,f2,b5,b7,h1X,if_false,h1R]
         rw [d0,a6];simp only [Oper.upon];refine Calls.mono hc (fun e w' b2=>?_);obtain⟨r,M',rfl,h1,h2,h3⟩:=b2;have a1:=G.step h3;refine hK _ _ M' pb ⟨?_,h2,hG.mono h3.ext,h3.mono hB,A _ _⟩;exact a1.put hd (fun tv e=>by simp at e;subst e;exact h1) (fun s m e=>by simp at e)
theorem c5K{f:FuncId}{cf:FuncId->List IV->Heap->Option (IV×Heap)}{ops:List Oper}{draw:Bool}{rs:Option Nat}{o:Oper}{e:Ef}(y:b4D E cf)(j:GOK E M)(u:Inv M h w)(l:FR M h w B n F a pb)(z:B<=w.heap.size)
  (hd: ∀t,o.dst=some t->t<n) (he:dE E f cf ops draw rs o F.tm F.lv h=some e) (Q:Exit->Act->World->Prop) (K:Act->World->Prop)
  (hK: ∀a' w' M' pb',Nxt E B n M h w a (F.app o.dst e) e.h a' w' M' pb'->K a' w'):
  if Region.wanted o (yielded ops.toArray a.tmps)then o.wp E.P a w K Q\/ (o.asks E.P a w/\LetsOut Q)else K (a.put o.dst undef) w:=by
 cases rs with
 |none=>exact f1Q y j u l z hd he Q K hK
 |some k=>
  have hev:=c5J j l;have i: ∀(d:Option Tmp)(r:Value),(a.put d r).defers=a.defers:=fun d r=>by cases d<;>rfl
  unfold dE at he
  cases hw:dD ops F.tm o with
  |none=>simp [hw]at he
  |some b=>
   rw [a7Q l hw];simp only [hw]at he
   cases b with
   |false=>
    simp only [h0V]at he;subst he;simp only [h1X,if_false];refine hK _ _ M pb ⟨?_,u,j,Pres.refl _ _ _ _,i _ _⟩;exact l.put hd (fun tv e=>by simp at e;subst e;exact rfl) (fun s p e=>by simp at e)
   |true=>
    simp only at he;simp only [if_true];refine .inl ?_;unfold Oper.wp
    cases ha:aSh E f o (bC E F.tm) k with
    |none=>simp [ha]at he
    |some q=>
     obtain⟨v,x⟩:=q;simp only [ha]at he;have g: ∃c h',e=⟨c,v,none,false,h'⟩/\b9Y E M h w o a.eval v h':=by
      cases x with
      |none=>
       simp only [h0V]at he;exact⟨_,_,he.symm,e4Y (pb:=pb) u hev ha⟩
      |some x=>
       simp only at he;split at he
       case h_2=>cases he
       rename_i G;simp only [h0V]at he;exact⟨_,_,he.symm,f1P (pb:=pb) u hev G ha⟩
     obtain⟨c,h',rfl,g⟩:=g;obtain⟨w',M',A,g2,D⟩:=g;have m:=l.step g2;rcases D with⟨x,r,rfl,h1,h2⟩| ⟨rfl,h1⟩
     ·rw [h1];refine hK _ _ M' pb ⟨?_,A,j.mono g2.ext,g2.mono z,i _ _⟩;exact m.put hd (fun tv e=>by simp at e;subst e;exact h2) (fun s p e=>by simp at e)
     ·rw [h1];refine hK _ _ M' pb ⟨?_,A,j.mono g2.ext,g2.mono z,i _ _⟩;exact m.put hd (fun tv e=>by simp at e) (fun s p e=>by simp at e)
end
theorem iQ(m b:Nat):jE m b=true ↔ ∀k,m.testBit k=true->b.testBit k=true:=by
 unfold jE
 rw [beq_iff_eq]
 constructor
 ·intro h k g;rw [<-h,Nat.testBit_and]at g;simp at g;exact g.2
 ·intro h;apply Nat.eq_of_testBit_eq;intro k;rw [Nat.testBit_and]
  cases hm:m.testBit k with
  |false=>simp
  |true=>simp [h k hm]
theorem kQ(i k:Nat):(bit i).testBit k=decide (i=k):=by
 unfold bit
 rw [Nat.testBit_two_pow]
theorem d0E(m:Met){c g:Cls}(i:Nat)(h:jA c g=true):((m.add c i).chk g).testBit i=true:=by
 cases c<;>cases g<;>first| (simp [jA]at h;done)|simp [Met.add,Met.chk,kQ]
section
variable {E:Env} {f:FuncId} {cf:FuncId->List IV->Heap->Option (IV×Heap)} {ops:List Oper} {bef:Nat->Nat}
def MLe(m g:Met):Prop:=(∀k,g.e.testBit k=true->m.e.testBit k=true)/\(∀k,g.r.testBit k=true->m.r.testBit k=true)/\(∀k,g.s.testBit k=true->m.s.testBit k=true)/\(∀k,g.l.testBit k=true->m.l.testBit k=true)/\(∀k,g.a.testBit k=true->m.a.testBit k=true)
def qX(i g:Pd):Prop:= ∀p'∈g,∃p∈i,p.1=p'.1/\∀h,p.2 h=true->p'.2 h=true
theorem MLe.of_add(m:Met)(c:Cls)(i:Nat):MLe (m.add c i) m:=by
 cases c<;>refine⟨fun k g=>?_,fun k g=>?_,fun k g=>?_,fun k g=>?_,fun k g=>?_⟩<;>simp [Met.add,g]
theorem MLe.add{m r:Met}(h:MLe m r)(c:Cls)(i:Nat):MLe (m.add c i) (r.add c i):=by
 obtain⟨h1,h2,h3,h4,j⟩:=h;have g: ∀a b:Nat,(∀k,b.testBit k=true->a.testBit k=true)-> ∀k,(b|||bit i).testBit k=true->(a|||bit i).testBit k=true:=by
  intro a b p k l;rw [h6G,h2Z]at l⊢;rcases l with l|l
  ·exact .inl (p k l)
  ·exact .inr l
 cases c
 ·exact⟨h1,h2,h3,h4,j⟩
 ·exact⟨h1,h2,h3,g _ _ h4,j⟩
 ·exact⟨h1,h2,g _ _ h3,h4,j⟩
 ·exact⟨h1,g _ _ h2,h3,h4,j⟩
 ·exact⟨g _ _ h1,h2,h3,h4,j⟩
 ·exact⟨h1,h2,h3,h4,j⟩
 ·exact⟨h1,h2,h3,h4,g _ _ j⟩
theorem MLe.chk{m i:Met}(h:MLe m i)(c:Cls){b:Nat}(j:jE (m.chk c) b=true):jE (i.chk c) b=true:=by
 obtain⟨h1,h2,h3,h4,l⟩:=h;rw [iQ]at j⊢;intro k g;apply j
 cases c
 ·exact g
 ·exact h3 k g
 ·simp only [Met.chk,h6G,h2Z]at g⊢;rcases g with g|g
  ·exact .inl (h3 k g)
  ·exact .inr (h4 k g)
 ·exact h1 k g
 ·simp only [Met.chk,h6G,h2Z]at g⊢;rcases g with(g|g)|g
  ·exact .inl (.inl (h1 k g))
  ·exact .inl (.inr (h2 k g))
  ·exact .inr (l k g)
 ·exact g
 ·exact h1 k g
theorem d0F{l:List Nat}{rs:Nat->Option Nat}{m i:Met}{b:Nat}{id:Option Nat}{c:Cls}(r:MLe m i)(g:b0B l rs m b id c=true):b0B l rs i b id c=true:=by
 unfold b0B at g⊢;split at g
 ·simp only [h2L,h2Z,h2K]at g⊢;intro j p;rcases g j p with z|z|z
  ·exact .inl z
  ·refine .inr (.inl ?_)
   cases hq:i.a.testBit j with
   |false=>rfl
   |true=>rw [r.2.2.2.2 j hq]at z;cases z
  ·exact .inr (.inr z)
 ·rfl
theorem b4F: ∀{l:List Nat}{k j n:Nat},b9R k l j=some n->j∈l
 | [],_,_,_,h=>by cases h
 |i::r,k,j,n,h=>by
  unfold b9R at h;split at h
  ·rename_i e;rw [h1I e];exact h2C
  ·exact h2N _ (b4F h)
theorem d0G{m l:Met}{u i:Pd}{b:Nat}{e e':Ef}(y:MLe m l)(O:qX u i)(A:e'.c=e.c)(D:e.c= .e->e'.h=e.h)(g:b9Q m u b e=true):b9Q l i b e'=true:=by
 unfold b9Q at g⊢
 cases hec:e.c with
 |e=>
  rw [hec]at g A;rw [A,D hec];simp only [h0Y,h2L,h2Z]at g⊢;refine⟨(iQ _ _).2 fun k r=>(iQ _ _).1 g.1 k ?_,fun T j=>?_⟩
  ·rw [h6G,h2Z]at r⊢;exact r.imp (y.1 k) (y.2.2.2.2 k)
  obtain⟨p,L,K,G⟩:=O T j;rcases g.2 p L with z|z
  ·exact .inl (by rw [<-K];exact z)
  ·exact .inr (G _ z)
 |_=>rw [hec]at g;cases g
theorem wN{p:List Nat}{rs:Nat->Option Nat}{id:Option Nat}{m r:Met}{u g:Pd}{b:Nat}{e e':Ef}(j:MLe m r)(A:qX u g)(l:e'.c=e.c)(y:e.c= .e->e'.h=e.h)(i:okB p rs m u b id e=true):
  okB p rs r g b id e'=true:=by
 unfold okB at i⊢;rw [h0Y,h2Z]at i⊢;refine⟨?_,by rw [l];exact d0F j i.2⟩;rcases i.1 with z|z
 ·exact .inl (by rw [l];exact j.chk _ z)
 ·exact .inr (d0G j A l y z)
theorem qX.refl(g:Pd):qX g g:=fun p i=>⟨p,i,rfl,fun _ h=>h⟩
theorem qX.of_add(j:Pd)(o:Oper)(ev:Operand->Option TV)(e:Ef)(i:Nat):qX (mK E o ev e i j) j:=by
 intro p g;refine⟨p,?_,rfl,fun _ h=>h⟩;unfold mK
 split
 ·exact h2N _ g
 ·exact g
theorem qX.add{l j:Pd}(h:qX l j)(o:Oper)(ev:Operand->Option TV)(e:Ef)(i:Nat):qX (mK E o ev e i l) (mK E o ev e i j):=by
 unfold mK
 split
 ·intro u g;rcases h2O.1 g with rfl|g
  ·exact⟨_,h2C,rfl,fun _ z=>z⟩
  ·obtain⟨p,r,m⟩:=h u g;exact⟨p,h2N _ r,m⟩
 ·exact h
theorem tF{u:List Nat}{rs:Nat->Option Nat}{draw:Bool} : ∀{l:List (Oper×Nat)}{m j:Met}{r g:Pd}{F p:FF}{h h':Heap},b4B E f cf ops bef u rs draw l m r F h p h'->MLe m j->qX r g->b4B E f cf ops bef u rs draw l j g F h p h'
 | [],_,_,_,_,_,_,_,_,hr,_,_=>hr
 | (o,i)::l,m,j,r,g,F,p,h,h',hr,hm,hp=>by
  obtain⟨e,r1,y,z⟩:=hr;exact⟨e,r1,fun hd=>wN hm hp rfl (fun _=>rfl) (y hd),tF z (hm.add _ _) (hp.add _ _ _ _)⟩
theorem MLe.refl(m:Met):MLe m m:=⟨fun _ h=>h,fun _ h=>h,fun _ h=>h,fun _ h=>h,fun _ h=>h⟩
theorem d3O(g:qS E cf){al:List Nat}{rs:Nat->Option Nat}(a0: ∀j n,rs j=some n->j∈al){o:Oper}{i:Nat}{B:List (Oper×Nat)} : ∀{A:List (Oper×Nat)}{m:Met}{pd:Pd}{F F':FF}{h h':Heap},rO F->(∀p∈A,(bef i).testBit p.2=false/\Oper.apart ops.toArray p.1 o=true)->
  b4B E f cf ops bef al rs true (A++(o,i)::B) m pd F h F' h'->
  ∃e,dE E f cf ops true (rs i) o F.tm F.lv h=some e/\okB al rs m pd (bef i) (jO o (bC E F.tm)) e=true/\b4B E f cf ops bef al rs true (A++B) m pd (F.app o.dst e) e.h F' h'
 | [],m,pd,F,F',h,h',_,_,hr=>by
  obtain⟨e,r1,r2,r3⟩:=hr;exact⟨e,r1,r2 rfl,tF r3 (MLe.of_add _ _ _) (qX.of_add _ _ _ _ _)⟩
 | (oa,ia)::A,m,pd,F,F',h,h',hAd,hA,hr=>by
  obtain⟨h1,h2⟩:=hA (oa,ia) (by simp);obtain⟨K,r1,r2,r3⟩:=hr;obtain⟨y,s1,s2,s3⟩:=d3O g a0 (hAd.appA g r1) (fun p hp=>hA p (by simp [hp])) r3;have a3:=r2 rfl;obtain⟨ab,ap,c3,b6,ar,ae,ax,aa⟩:=eO g r1;obtain⟨ib,ip,il,b1,ir,ie,ix,b9⟩:=eO g s1;obtain⟨t1,t2,t3⟩:=Oper.apart_spec h2;have a6:jO o (bC E (F.app oa.dst K).tm)=jO o (bC E F.tm):=yT (jX (E:=E) (ops:=ops) fun t V=>by rw [fJ ab,if_neg (fun e=>t1 t e V)]);rw [a6]at s2
  cases hcl:jA K.c y.c with
  |false=>
   have b5:K.c= .a->y.c= .r-> ∀n id,rs ia=some n->jO o (bC E F.tm)=some id->n≠id:=by
    intro c1 c2 n id hn b3;have T:=s2;unfold okB b0B at T;rw [c2,h0Y]at T;have a1:=T.2;simp only [h2L,h2Z,h2K]at a1;obtain⟨_,n',x',w1,_⟩:=aa c1;rw [w1]at hn;simp only [h0V]at hn;subst hn;rcases a1 ia (a0 _ _ w1)with z|z|z
    ·rw [h1]at z;cases z
    ·rw [c1]at z;simp [Met.add,kQ]at z
    ·rw [w1,b3]at z;simp only [h2K]at z;rintro rfl;rw [h8Z]at z;cases z
   obtain⟨X,Y,q1,q2,q3,q4,q5,q6,q7⟩:=g5D g hAd h2 r1 s1 hcl b5;obtain⟨a2,_,_,_,_,_,_,_⟩:=eO g q1;obtain⟨c0,b4,a9,b0,b7,b8,b2,c5⟩:=eO g q2;have O:jO oa (bC E (F.app o.dst X).tm)=jO oa (bC E F.tm):=yT (jX (E:=E) (ops:=ops) fun t V=>by rw [fJ a2,if_neg (fun e=>t3 t e V)]);have a8:y.c= .e->X.h=y.h:=by
    intro G;rw [<-q6];rw [G]at hcl
    cases hca:Y.c with
    |p=>exact(b4 hca).2.1.symm
    |l=>exact(a9 hca).2.1.symm
    |s=>exact(b0 hca).1.symm
    |b=>exact(b2 hca).1.symm
    |r=>rw [q4]at hca;rw [hca]at hcl;cases hcl
    |e=>rw [q4]at hca;rw [hca]at hcl;cases hcl
    |a=>rw [q4]at hca;rw [hca]at hcl;cases hcl
   have a7:K.c= .e->Y.h=K.h:=by
    intro G;rw [q6];rw [G]at hcl
    cases hci:y.c with
    |p=>exact(ip hci).2.1
    |l=>exact(il hci).2.1
    |s=>exact(b1 hci).1
    |b=>exact(ix hci).1
    |r=>rw [hci]at hcl;cases hcl
    |e=>rw [hci]at hcl;cases hcl
    |a=>rw [hci]at hcl;cases hcl
   refine⟨X,q1,wN (MLe.of_add _ _ _) (qX.of_add _ _ _ _ _) q3 a8 s2,Y,q2,fun _=>by rw [O];exact wN (MLe.refl _) (qX.refl _) q4 a7 a3,?_⟩;rw [q4,q5,q6];refine tF s3 (MLe.refl _) ?_;have hev: ∀h2,dP E oa (bC E (F.app o.dst X).tm) h2=dP E oa (bC E F.tm) h2:=fun h2=>yS (jX (E:=E) (ops:=ops) fun t V=>by rw [fJ a2,if_neg (fun e=>t3 t e V)])
   unfold mK
   rw [q4]
   cases hca:K.c with
   |r=>
    simp only [q7,hev];exact qX.refl _
   |_=>exact qX.refl _
  |true=>
   have u:=s2;unfold okB at u;rw [h0Y,h2Z]at u;rcases u.1 with u|u
   ·have:=(iQ _ _).1 u ia (d0E m ia hcl);rw [h1]at this;cases this
   ·have a4:y.c= .e:=by
     unfold b9Q at u
     cases G:y.c with
     |e=>rfl
     |_=>rw [G]at u;cases u
    have T:=u;unfold b9Q at T;rw [a4]at T hcl;simp only [h0Y]at T;have L:K.c= .r:=by
     cases G:K.c with
     |r=>rfl
     |e=>
      exfalso;have:=(iQ _ _).1 T.1 ia (by rw [G];simp [Met.add,kQ]);rw [h1]at this;cases this
     |a=>
      exfalso;have:=(iQ _ _).1 T.1 ia (by rw [G];simp [Met.add,kQ]);rw [h1]at this;cases this
     |_=>rw [G]at hcl;cases hcl
    have D:=T.2;unfold mK at D;rw [L]at D;simp only [h5T,h0Y,h1,h4S]at D;have hP:=D.1;have Z:dE E f cf ops true (rs ia) oa F.tm F.lv y.h=some {K with h:=y.h } :=by
     split at hP
     ·rename_i v2 v a5 hv;have e1:=e4Z hP;subst e1;exact d0D r1 L a5 hv
     ·cases hP
    obtain⟨g1,g2,g3⟩:=g0F g h2 r1 s1 L a4 Z;have O:jO oa (bC E (F.app o.dst y).tm)=jO oa (bC E F.tm):=yT (jX (E:=E) (ops:=ops) fun t V=>by rw [fJ ib,if_neg (fun e=>t3 t e V)]);refine⟨y,g1,wN (MLe.of_add _ _ _) (qX.of_add _ _ _ _ _) rfl (fun _=>rfl) s2,{K with h:=y.h },g2,fun _=>?_,?_⟩
    ·rw [O];exact wN (e:=K) (e':= {K with h:=y.h }) (MLe.refl _) (qX.refl _) rfl (fun G=>by rw [L]at G;cases G) a3
    ·rw [g3];refine tF s3 (MLe.refl _) ?_;have hev: ∀h2,dP E oa (bC E (F.app o.dst y).tm) h2=dP E oa (bC E F.tm) h2:=fun h2=>yS (jX (E:=E) (ops:=ops) fun t V=>by rw [fJ ib,if_neg (fun e=>t3 t e V)])
     unfold mK
     simp only [L,hev];exact qX.refl _
structure RegOk(ops:List Oper)(bef:Nat->Nat):Prop where
 back: ∀i o,ops[i]?=some o-> ∀e∈o.after.toList,Region.binds .any e=true->e.on<i
 apart: ∀i o a oa,ops[i]?=some o->a<i->ops[a]?=some oa->(bef i).testBit a=false->Oper.apart ops.toArray oa o=true
 clos: ∀i o a,ops[i]?=some o->(bef i).testBit a=true-> ∃e∈o.after.toList,Region.binds .any e=true/\(e.on=a\/ (bef e.on).testBit a=true)
theorem c0B(z:RegOk ops bef){P:Nat->Prop}(g: ∀j o,P j->ops[j]?=some o-> ∀e∈o.after.toList,Region.binds .any e=true->P e.on)(p: ∀j,P j-> ∃o,ops[j]?=some o):
  ∀i o,ops[i]?=some o->(∀e∈o.after.toList,Region.binds .any e=true->P e.on)-> ∀a,(bef i).testBit a=true->P a:=by
 intro i
 induction i using Nat.strongRecOn with
 |_ i ih=>
  intro o y D a A;obtain⟨e,h1,h2,h3⟩:=z.clos i o a y A;have r:=D e h1 h2;rcases h3 with rfl|h3
  ·exact r
  ·obtain⟨G,l⟩:=p _ r;exact ih e.on (z.back i o y e h1 h2) G l (fun e' u m=>g _ _ r l e' u m) a h3
variable {B n:Nat}
structure Todo(ops:List Oper)(n:Nat)(L:List (Oper×Nat)):Prop where
 at_: ∀p∈L,ops[p.2]?=some p.1
 dst: ∀p∈L,∀t,p.1.dst=some t->t<n
theorem Nxt.trans'{M l j:Meta}{h h1 h2:Heap}{w m u:World}{a p r:Act}{A z:FF}{i g:Nat->Nat}(x:Nxt E B n M h w a A h1 p m l i)(y:Nxt E B n l h1 m p z h2 r u j g):
 Nxt E B n M h w a z h2 r u j g:=⟨y.fr,y.inv,y.glob,x.pres.trans y.pres,y.defers.trans x.defers⟩
theorem b4G{D:List Nat}{rs:Nat->Option Nat}{draw:Bool}(g:b4D E cf)(Q:Exit->Act->World->Prop): ∀(L:List (Oper×Nat))(m:Met)(y:Pd)(F:FF)(h:Heap)(l:FF)(h':Heap),b4B E f cf ops bef D rs draw L m y F h l h'->Todo ops n L->
  ∀(M:Meta)(w:World)(a:Act)(pb:Nat->Nat),GOK E M->Inv M h w->FR M h w B n F a pb->B<=w.heap.size->
  (∀a' w' M' pb',Nxt E B n M h w a l h' a' w' M' pb'->Q .normal a' w')->wpOps E.P ops.toArray Q (L.map (·.2)) a w
 | [],m,y,F,h,l,h',hr,hT,M,w,a,pb,hG,hI,hF,hB,hQ=>by
  obtain⟨rfl,rfl⟩:=hr;exact hQ a w M pb ⟨hF,hI,hG,Pres.refl _ _ _ _,rfl⟩
 | (o,i)::L,m,y,F,h,l,h',hr,hT,M,w,a,pb,hG,hI,hF,hB,hQ=>by
  obtain⟨e,r1,r2,Z⟩:=hr;have T:ops.toArray[i]?=some o:=by simpa using hT.at_ (o,i) (by simp)
  simp only [h2H,wpOps,T];refine c5K g hG hI hF hB (hT.dst (o,i) (by simp)) r1 Q _ (fun X V K u j=>?_);exact b4G g Q L _ _ _ _ _ _ Z ⟨fun p z=>hT.at_ p (by simp [z]),fun p z=>hT.dst p (by simp [z])⟩ K V X u j.glob j.inv j.fr (h2F hB j.pres.size)
   (fun Y G A r O=>hQ Y G A r (j.trans' O))
structure Lst(ops:List Oper)(L:List (Oper×Nat))(listed:Array Bool):Prop where
 size:listed.size=ops.length
 iff_: ∀i,i<ops.length->(listed.getD i true=false ↔ ∃p∈L,p.2=i)
 clos: ∀j o,ops[j]?=some o->listed.getD j true=true-> ∀e∈o.after.toList,Region.binds .any e=true->listed.getD e.on false=true
theorem rQ{p q:Oper×Nat}(h:qR ops p q=true):p.2<q.2\/ (p.2≠q.2/\(∀e∈p.1.after.toList,e.on≠q.2)/\Oper.apart ops.toArray p.1 q.1=true):=by
 unfold qR at h;simp only [h2Z,h0Y,h2L,h2K]at h;rcases h with h| ⟨⟨h1,h2⟩,h3⟩
 ·exact .inl (h2T h)
 ·exact .inr ⟨h5F h1,fun e g=>h5F (h2 e g),h3⟩
theorem b4H{p q:Oper×Nat}(h:qR ops p q=true):p.2≠q.2:=by
 rcases rQ h with z|z
 ·omega
 ·exact z.1
theorem a7S: ∀{L:List (Oper×Nat)},a2E ops L=true->L.Pairwise (fun p q=>qR ops p q=true)
 | [],_=> .nil
 |p::r,h=>by
  simp only [a2E,h0Y,h2L]at h;exact .cons h.1 (a7S h.2)
theorem wO(l:Array Bool)(i:Nat)(h:i<l.size)(a b:Bool):l.getD i a=l.getD i b:=by simp [h3G,h]
theorem e5C{al:List Nat}{rs:Nat->Option Nat}(a8: ∀j n,rs j=some n->j∈al)(d0:b4D E cf)(b8:qS E cf)(hR:RegOk ops bef)(Q:Exit->Act->World->Prop): ∀(O:Nat)(L:List (Oper×Nat))(g:Array Bool)(m:Met)(pd:Pd)(F:FF)(h:Heap)(F':FF)(h':Heap),L.length<=O->b4B E f cf ops bef al rs true L m pd F h F' h'->Todo ops n L->L.Pairwise (fun p q=>qR ops p q=true)->Lst ops L g->
  ∀(M:Meta)(w:World)(a:Act)(pb:Nat->Nat),GOK E M->Inv M h w->FR M h w B n F a pb->B<=w.heap.size->
  (∀a' w' M' pb',Nxt E B n M h w a F' h' a' w' M' pb'->Q .normal a' w')->wpAny E.P .any ops.toArray Q O g a w:=by
 have empty: ∀{L:List (Oper×Nat)}{g:Array Bool},Todo ops n L->L.Pairwise (fun p q=>qR ops p q=true)->Lst ops L g->Region.ready .any ops.toArray g=[]->L=[]:=by
  intro L g hT a8 K hr
  cases L with
  |nil=>rfl
  |cons p L=>
   exfalso;have hp:=hT.at_ p (by simp);have a5:p.2<ops.length:=(h2B.1 hp).1;have G:=(K.iff_ p.2 a5).2 ⟨p,by simp,rfl⟩;have:p.2∈Region.ready .any ops.toArray g:=by
    simp only [Region.ready,List.mem_filter,h6H,h4B];refine⟨a5,?_⟩;simp only [G,h8L,h2G,h4I,hp,h4C,h5P];rw [h6Q];intro e V
    cases T:Region.binds .any e with
    |false=>simp
    |true=>
     have c3:=hR.back p.2 p.1 hp e (by simpa using V) T;have a6:e.on<ops.length:=by omega
     simp only [h8S,h4S];rw [wO g e.on (by rw [K.size];exact a6) false true]
     cases l:g.getD e.on true with
     |true=>rfl
     |false=>
      obtain⟨q,q1,q2⟩:=(K.iff_ e.on a6).1 l;have r:=h7G.1 a8;simp only [h2O]at q1;rcases q1 with rfl|q1
      ·omega
      ·rcases rQ (r.1 q q1)with z| ⟨_,z,_⟩
       ·omega
       ·exact absurd q2.symm (z e (by simpa using V))
   rw [hr]at this;simp at this
 intro O
 induction O with
 |zero=>
  intro L g m pd F h F' h' Y hr hT a3 K M w a pb hG hI hF hB hQ;have:L=[]:=by simpa using Y
  subst this;obtain⟨rfl,rfl⟩:=hr;refine⟨?_,hQ a w M pb ⟨hF,hI,hG,Pres.refl _ _ _ _,rfl⟩⟩;simp only [Region.ready];rw [List.filter_eq_nil_iff];intro i hi;simp only [h6H,h4B]at hi;have: ¬g.getD i true=false:=by
   rw [K.iff_ i hi];simp
  simp at this;simp [this]
 |succ O ih=>
  intro L g m pd F h F' h' Y hr hT a3 K M w a pb hG hI hF hB hQ;refine⟨fun c0=>?_,fun i hi=>?_⟩
  ·have:=empty hT a3 K c0;subst this;obtain⟨rfl,rfl⟩:=hr;exact hQ a w M pb ⟨hF,hI,hG,Pres.refl _ _ _ _,rfl⟩
  ·simp only [Region.ready,List.mem_filter,h6H,h4B,h0Y,h2K,h4I]at hi;obtain⟨a5,G,a4⟩:=hi;obtain⟨p,hp,b3⟩:=(K.iff_ i a5).1 G;obtain⟨o,u⟩:=p;simp only at b3;subst b3;obtain⟨A,B',c6⟩:=List.append_of_mem hp;subst c6;have ho:ops[u]?=some o:=hT.at_ _ hp;have a0: ∀e∈o.after.toList,Region.binds .any e=true->g.getD e.on false=true:=by
    simp only [ho,h4C,h5P]at a4;rw [h6Q]at a4;intro e V T;have:=a4 e (by simpa using V);simpa [T]using this
   have r:=h8Q.1 a3;have a7: ∀q∈A,qR ops q (o,u)=true:=fun q l=>r.2.2 q l (o,u) (by simp)
   have d1: ∀j oj,(j<ops.length/\g.getD j true=true)->ops[j]?=some oj-> ∀e∈oj.after.toList,Region.binds .any e=true->(e.on<ops.length/\g.getD e.on true=true):=by
    intro j oj X D e V T;have h1:=hR.back j oj D e V T;have h2:=K.clos j oj D X.2 e V T;refine⟨by omega,?_⟩
    rwa [wO g e.on (by rw [K.size];omega) true false]
   have b7:=c0B hR (P:=fun j=>j<ops.length/\g.getD j true=true) d1 (fun j X=>⟨_,h0U X.1⟩) u o ho
    (fun e V T=>by
     have h1:=hR.back u o ho e V T;refine⟨by omega,?_⟩;rw [wO g e.on (by rw [K.size];omega) true false];exact a0 e V T)
   have b9:=d3O b8 a8 hF.addr (fun q l=>by
    have b5:q∈A++(o,u)::B':=by simp [l]
    have a9:=hT.at_ q b5;have b2:q.2<ops.length:=(h2B.1 a9).1;have c5:=(K.iff_ q.2 b2).2 ⟨q,b5,rfl⟩;have b4:(bef u).testBit q.2=false:=by
     cases T:(bef u).testBit q.2 with
     |false=>rfl
     |true=>
      have:=(b7 q.2 T).2;rw [c5]at this;simp at this
    refine⟨b4,?_⟩;rcases rQ (a7 q l)with z| ⟨_,_,z⟩
    ·exact hR.apart u o q.2 q.1 ho z a9 b4
    ·exact z) hr
   obtain⟨e,r1,r2,r3⟩:=b9;have c1:Todo ops n (A++B'):=by
    refine⟨fun q l=>hT.at_ q ?_,fun q l=>hT.dst q ?_⟩
    ·simp at l⊢;rcases l with l|l<;>simp [l]
    ·simp at l⊢;rcases l with l|l<;>simp [l]
   have b1:(A++B').Pairwise (fun p q=>qR ops p q=true):=h8Q.2 ⟨r.1,(h7G.1 r.2.1).2,fun x hx y hy=>r.2.2 x hx y (by simp [hy])⟩;have b6: ∀q∈A,q.2≠u:=fun q l=>b4H (a7 q l)
   have b0: ∀q∈B',q.2≠u:=fun q l=>(b4H ((h7G.1 r.2.1).1 q l)).symm
   have Z: ∀j,j<ops.length->(g.setIfInBounds u true).getD j true=if j=u then true else g.getD j true:=by
    intro j X;simp only [h3G,h3F]
    by_cases hji:j=u
    ·subst hji;simp [K.size,X]
    ·rw [if_neg (fun e=>hji e.symm),if_neg hji]
   have c8:Lst ops (A++B') (g.setIfInBounds u true):=by
    refine⟨by simpa using K.size,fun j X=>?_,fun j oj D X e V T=>?_⟩
    ·rw [Z j X]
     by_cases hji:j=u
     ·subst hji;simp only [if_true]
      constructor
      ·intro h;simp at h
      ·rintro⟨q,l,e⟩;simp only [h2S]at l;rcases l with l|l
       ·exact absurd e (b6 q l)
       ·exact absurd e (b0 q l)
     ·rw [if_neg hji,K.iff_ j X]
      constructor
      ·rintro⟨q,l,e⟩;simp only [h2S,h2O]at l;rcases l with l|rfl|l
       ·exact⟨q,by simp [l],e⟩
       ·exact absurd e.symm hji
       ·exact⟨q,by simp [l],e⟩
      ·rintro⟨q,l,e⟩;simp only [h2S]at l;rcases l with l|l
       ·exact⟨q,by simp [l],e⟩
       ·exact⟨q,by simp [l],e⟩
    ·have d2:j<ops.length:=(h2B.1 D).1;have c3:=hR.back j oj D e V T;have d3:(g.setIfInBounds u true).size=ops.length:=by simpa using K.size
     rw [wO _ e.on (by omega) false true,Z _ (by omega)]
     by_cases hei:e.on=u
     ·simp [hei]
     ·rw [if_neg hei];rw [wO g e.on (by rw [K.size];omega) true false];rw [Z j d2]at X
      by_cases hji:j=u
      ·subst hji;rw [ho]at D;simp at D;subst D;exact a0 e V T
      ·rw [if_neg hji]at X;exact K.clos j oj D X e V T
   have c9:ops.toArray[u]?=some o:=by simpa using ho
   simp only [wpOp,c9];refine c5K d0 hG hI hF hB (hT.dst (o,u) (by simp)) r1 Q _ (fun a1 w1 M1 c2 hx=>?_);exact ih (A++B') _ _ _ _ _ _ _ (by simp at Y⊢;omega) r3 c1 b1 c8 M1 w1 a1 c2 hx.glob hx.inv hx.fr (h2F hB hx.pres.size) (fun a2 w2 M2 c7 hy=>hQ a2 w2 M2 c7 (hx.trans' hy))
end
def c0D(ops:List Oper)(bef:Nat->Nat):Bool:=
 ops.zipIdx.all fun(o,i)=>
  o.after.toList.all (fun e=>!Region.binds .any e||decide (e.on<i)) &&
  (ops.zipIdx.all (fun(oa,a)=>!decide (a<i)|| (bef i).testBit a||Oper.apart ops.toArray oa o) &&
  jE (bef i) (o.after.toList.foldl (fun s e=>if Region.binds .any e then s|||bit e.on|||bef e.on else s) 0))
theorem a7T(bef:Nat->Nat)(a:Nat): ∀(l:List Edge)(s:Nat),(l.foldl (fun s e=>if Region.binds .any e then s|||bit e.on|||bef e.on else s) s).testBit a=true->
  s.testBit a=true\/ ∃e∈l,Region.binds .any e=true/\(e.on=a\/ (bef e.on).testBit a=true)
 | [],s,h=> .inl h
 |e::l,s,h=>by
  simp only [h8D]at h;rcases a7T bef a l _ h with h| ⟨e',h1,h2⟩
  ·split at h
   ·rename_i g;simp only [h6G,h2Z,kQ,decide_eq_true_eq]at h;rcases h with(h|h)|h
    ·exact .inl h
    ·exact .inr ⟨e,by simp,g,.inl h⟩
    ·exact .inr ⟨e,by simp,g,.inr h⟩
   ·exact .inl h
  ·exact .inr ⟨e',by simp [h1],h2⟩
theorem wP{ops:List Oper}{i:Nat}{o:Oper}(h:ops[i]?=some o):(o,i) ∈ops.zipIdx:=by
 rw [h4M];exact h
theorem d3P{ops:List Oper}{bef:Nat->Nat}(h:c0D ops bef=true):RegOk ops bef:=by
 unfold c0D at h;rw [h2L]at h;have h': ∀i o,ops[i]?=some o->_:=fun i o g=>h (o,i) (wP g)
 simp only [h0Y,h2L]at h';refine⟨fun i o g e r l=>?_,fun i o a z g m j p=>?_,fun i o a g l=>?_⟩
 ·have:=(h' i o g).1 e r;simpa [l]using this
 ·have:=(h' i o g).2.1 (z,a) (wP j);simpa [m,p]using this
 ·have u:=(iQ _ _).1 (h' i o g).2.2 a l;rcases a7T bef a _ _ u with y|h1
  ·simp at y
  ·exact h1
def gG(n:Nat):Code->Bool
 | .region _ ops draw=>ops.toList.all (fun o=>match o.dst with|some t=>decide (t<n)|none=>true) && (!draw||c0D ops.toList (a2D ops))
 | .seq a b=>gG n a&&gG n b
 | .cond _ a b=>gG n a&&gG n b
 | .block _ c=>gG n c
 | .loop c=>gG n c
 | .scope c=>gG n c
 |_=>true
def c0E(fn:Func):Bool:=
 match fn.body with
 | some c => gG fn.ntmps c && !(fn.name == "runtime.NumGoroutine")
 |none=>true
def yX(P:Program):Bool:=P.funcs.toList.all c0E
def Ex.toExit:Ex->Exit
 | .normal=> .normal
 | .exit id=> .exit id
 | .ret=> .ret
section
variable {E:Env} {f:FuncId} {cf:FuncId->List IV->Heap->Option (IV×Heap)} {N B n:Nat}
theorem d3Q{ops:List Oper}(hd:ops.all (fun o=>match o.dst with|some t=>decide (t<n)|none=>true)=true):Todo ops n ops.zipIdx:=by
 refine⟨fun p g=>?_,fun p g t j=>?_⟩
 ·obtain⟨o,i⟩:=p;exact(h4M).1 g
 ·obtain⟨o,i⟩:=p;have l:=(h4M).1 g;rw [h2L]at hd;have:=hd o (h3C l);simp only at j;rw [j]at this;simpa using this
theorem d3R(ops:List Oper):ops.zipIdx.Pairwise (fun p q=>qR ops p q=true):=by
 rw [i1V];intro i j l m g;simp only [List.getElem_zipIdx,qR,h2Z];exact .inl (Nat.ble_eq_true_of_le (by omega))
theorem wQ{ops:List Oper}{l:List Nat}{p:Oper×Nat} :p∈a0G ops l ↔ p.2∈l/\ops[p.2]?=some p.1:=by
 unfold a0G
 simp only [h6A,h0W]
 constructor
 ·rintro⟨i,g,o,j,rfl⟩;exact⟨g,j⟩
 ·rintro⟨h1,h2⟩;exact⟨p.2,h1,p.1,h2,rfl⟩
theorem c0F(l:List Nat)(draw:Bool)(ops:List Oper):yM l draw ops=ops.zipIdx\/ (draw=true/\yM l draw ops=a0G ops l/\l.length<=ops.length/\(∀j,j<ops.length->j∈l)/\a2E ops (a0G ops l)=true):=by
 unfold yM
 split
 ·rename_i i r;split
  ·rename_i h;simp only [h0Y,h2L,h6H]at h;exact .inr ⟨rfl,rfl,h2T h.1.1,fun j g=>by simpa using h.1.2 j g,h.2⟩
  ·exact .inl rfl
 ·exact .inl rfl
theorem e5F(ops:List Oper):ops.zipIdx.map (·.2)=List.range ops.length:=by
 apply h3T;intro i
 by_cases h:i<ops.length
 ·simp [h,h5W]
 ·simp [h]
theorem a7U(ops:List Oper):Lst ops ops.zipIdx (Array.replicate ops.length false):=by
 refine⟨by simp,fun i l=>?_,fun j o p m=>?_⟩
 ·simp only [h3G,h7V,l,if_true,h5P,true_iff];exact⟨(ops[i],i),wP (h0U l),rfl⟩
 ·have g:=(h2B.1 p).1;simp [h3G,g]at m
theorem d3S{ops:List Oper}{l:List Nat}(h: ∀j,j<ops.length->j∈l):Lst ops (a0G ops l) (Array.replicate ops.length false):=by
 have m:=a7U ops;refine⟨m.size,fun i p=>?_,m.clos⟩;rw [m.iff_ i p]
 constructor
 ·rintro⟨q,g,e⟩;exact⟨q,wQ.2 ⟨by rw [e];exact h i p,(h4M).1 g⟩,e⟩
 ·rintro⟨q,g,e⟩;exact⟨q,wP (wQ.1 g).2,e⟩
theorem d0H{ops:List Oper}{l:List Nat}(h:Todo ops n ops.zipIdx):Todo ops n (a0G ops l):=
 ⟨fun _ g=>(wQ.1 g).2,fun p g=>h.dst p (wP (wQ.1 g).2)⟩
structure Sim(E:Env)(B n:Nat)(M:Meta)(h:Heap)(w:World)(fr:Fr)(a:Act)(pb:Nat->Nat):Prop where
 glob:GOK E M
 inv:Inv M h w
 fr:FR M h w B n fr.ff a pb
 le:B<=w.heap.size
theorem Nxt.sim{M M':Meta}{h h':Heap}{w w':World}{g:Fr}{a j:Act}{i:Nat->Nat}(x:Nxt E B n M h w a g.ff h' j w' M' i)(l:B<=w.heap.size):Sim E B n M' h' w' g j i:=⟨x.glob,x.inv,x.fr,h2F l x.pres.size⟩
theorem FR.forget1{M:Meta}{h:Heap}{w:World}{g:Fr}{a:Act}{pb:Nat->Nat}(s:Nat)(j:FR M h w B n g.ff a pb):FR M h w B n (Fr.ff {tm:=g.tm.filt (rF s),lv:=g.lv.set s none }) a pb:=by
 have l: ∀k tv,(g.tm.filt (rF s)).get k=some tv->g.tm.get k=some tv/\rF s tv=true:=by
  intro k tv e;rw [PT.get_filt]at e;split at e
  ·rename_i x K;split at e
   ·rename_i D;simp only [h0V]at e;subst e;exact⟨K,D⟩
   ·cases e
  ·cases e
 have i: ∀t cs,(g.lv.set s none).get t=some cs->t≠s/\g.lv.get t=some cs:=by
  intro t cs e;rw [PT.get_set]at e;split at e
  ·cases e
  ·rename_i A;exact⟨A,e⟩
 refine⟨j.size,fun k tv e=>j.tm k tv (l k tv e).1,fun t cs e=>j.loc t cs (i t cs e).2,fun t u r y G L z=>j.one t u r y (i t r G).2 (i u y L).2 z,fun k t p e=>?_⟩;obtain⟨h1,h2⟩:=l k _ e;have m:t≠s:=by simpa [rF]using h2
 obtain⟨cs,O⟩:=j.addr k t p h1;refine⟨cs,?_⟩;show(g.lv.set s none).get t=some cs;rw [PT.get_set,if_neg m];exact O
theorem FR.forget{M:Meta}{h:Heap}{w:World}{a:Act}{pb:Nat->Nat} : ∀(l:List Nat){g:Fr},FR M h w B n g.ff a pb->FR M h w B n (g.forget l).ff a pb
 | [],_,hF=>hF
 |s::r,_,hF=>FR.forget r (hF.forget1 s)
theorem FR.start{M:Meta}{h:Heap}{w:World}{a:Act}{pb:Nat->Nat}{g:Fr}{f:FuncId}{ops:List Oper}{draw:Bool}(i:FR M h w B n g.ff a pb):FR M h w B n (g.start E f ops draw).ff a pb:=by
 unfold Fr.start
 split
 ·exact FR.forget _ i
 ·exact i
def g0G(E:Env)(B n:Nat)(c:Code)(i:Fr)(h:Heap)(j:Ex)(g:Fr)(h':Heap):Prop:=
 ∀M w a pb,Sim E B n M h w i a pb-> ∀Q:Exit->Act->World->Prop,(∀a' w' M' pb',Nxt E B n M h w a g.ff h' a' w' M' pb'->Q j.toExit a' w')->c.wp E.P Q a w
theorem c0G(O:b4D E cf)(L:qS E cf)(hm:E.P.follows .mixedOrders=true){id:Nat}{ops:Array Oper}{draw:Bool}{T u:Fr}{h h':Heap}(r:gG n (.region id ops draw)=true)
  (hr:mL E f cf ops.toList draw (a2D ops) (E.an f id) (b9R h.next (E.an f id)) (yM (E.od f id) draw ops.toList) {} [] T (h.reserve (E.an f id).length)=some (u,h')):g0G E B n (.region id ops draw) T h .normal u h':=by
 intro M0 w a pb j Q X;obtain⟨M,Z,y⟩:=j.inv.reserve (E.an f id).length;have i:Sim E B n M (h.reserve (E.an f id).length) w T a pb:=⟨j.glob.mono y.ext,Z,j.fr.step y,j.le⟩;have hQ: ∀D w' M' l,Nxt E B n M (h.reserve (E.an f id).length) w a u.ff h' D w' M' l->Q Ex.normal.toExit D w':=fun D w' M' l g=>X D w' M' l ⟨g.fr,g.inv,g.glob,(y.mono j.le).trans g.pres,g.defers⟩
 simp only [gG,h0Y]at r;have m:=c5I (E:=E) (f:=f) (cf:=cf) (ops:=ops.toList) (bef:=a2D ops) hr;have K:=d3Q r.1
 cases draw with
 |false=>
  refine wp_region ?_;rw [show yM (E.od f id) false ops.toList=ops.toList.zipIdx from rfl]at m;have:=b4G (ops:=ops.toList) O Q _ _ _ _ _ _ _ m K M w a pb i.glob i.inv i.fr i.le hQ;rw [e5F]at this;simpa using this
 |true=>
  refine wp_region_any hm ?_;have hR:=d3P (by simpa using r.2);have V:=i.inv.drew;have a0:FR M (h.reserve (E.an f id).length) w.drew B n T.ff a pb:=⟨i.fr.size,i.fr.tm,i.fr.loc,i.fr.one,i.fr.addr⟩;have Y:Todo ops.toList n (yM (E.od f id) true ops.toList)/\(yM (E.od f id) true ops.toList).Pairwise (fun p q=>qR ops.toList p q=true)/\Lst ops.toList (yM (E.od f id) true ops.toList) (Array.replicate ops.toList.length false)/\(yM (E.od f id) true ops.toList).length<=ops.toList.length:=by
   rcases c0F (E.od f id) true ops.toList with z| ⟨_,z,z0,z1,z2⟩
   ·rw [z];exact⟨K,d3R _,a7U _,by simp⟩
   ·rw [z];exact⟨d0H K,a7S z2,d3S z1,h2F (h7W _ _) z0⟩
  obtain⟨K,A,hL,G⟩:=Y;have:=e5C (ops:=ops.toList) (fun _ _ e=>b4F e) O L hR Q ops.toList.length _ _ _ _ _ _ _ _ G m K A hL M w.drew a pb i.glob V a0 i.le (fun D w' M' l g=>hQ D w' M' l
   ⟨g.fr,g.inv,g.glob,⟨g.pres.ext,g.pres.size,g.pres.os,g.pres.tape,g.pres.output,g.pres.keep⟩,g.defers⟩)
  simpa using this
theorem d3T(a5:b4D E cf)(a3:qS E cf)(hm:E.P.follows .mixedOrders=true): ∀(c:Code),gG n c=true-> ∀(z:Fr)(h:Heap)(A:Ex)(m:Fr)(h':Heap),dM E f cf N c z h=some (A,m,h')->g0G E B n c z h A m h':=by
 intro c
 induction c with
 |skip=>
  intro i z h A m h' g;simp [dM]at g;obtain⟨rfl,rfl,rfl⟩:=g;intro M w a pb j Q u;exact wp_skip (u a w M pb ⟨j.fr,j.inv,j.glob,Pres.refl _ _ _ _,rfl⟩)
 |region id ops draw=>
  intro i z h A m h' g;simp only [dM]at g;split at g
  case h_2=>simp at g
  rename_i X h1 T;simp at g;obtain⟨rfl,rfl,rfl⟩:=g;exact fun M w a pb j Q u=>c0G a5 a3 hm i T M w a pb ⟨j.glob,j.inv,j.fr.start,j.le⟩ Q u
 |seq x y ihx ihy=>
  intro i z h A m h' g;simp only [gG,h0Y]at i;simp only [dM]at g;intro M w a pb j Q u;refine wp_seq ?_;split at g
  ·rename_i X h1 T;refine ihx i.1 _ _ _ _ _ T M w a pb j _ (fun D G L p K=>?_);show y.wp E.P Q D G;refine ihy i.2 _ _ _ _ _ g L G D p (K.sim j.le) Q (fun a2 w2 M2 Y hy=>u a2 w2 M2 Y (K.trans' hy))
  ·rename_i O;refine ihx i.1 _ _ _ _ _ g M w a pb j _ (fun D G L p K=>?_);have V:=u D G L p K
   cases A with
   |normal=>exact absurd g (O _ _)
   |exit id=>exact V
   |ret=>exact V
 |cond c x y ihx ihy=>
  intro i z h A m h' g;simp only [gG,h0Y]at i;simp only [dM]at g;intro M w a pb j Q u;split at g
  ·rename_i T;have hv:VR M (.bool true) (a.eval c):=c5J j.glob j.fr c _ T;generalize hc:a.eval c=r at hv
   cases hv
   exact wp_cond_true hc (ihx i.1 _ _ _ _ _ g M w a pb j Q u)
  ·rename_i T;have hv:VR M (.bool false) (a.eval c):=c5J j.glob j.fr c _ T;generalize hc:a.eval c=r at hv
   cases hv
   exact wp_cond_false hc (ihy i.2 _ _ _ _ _ g M w a pb j Q u)
  ·simp at g
 |block id x ihx=>
  intro i z h A m h' g;simp only [gG]at i;simp only [dM]at g;intro M w a pb j Q u;refine wp_block ?_;split at g
  ·rename_i a0 X h1 T;refine ihx i _ _ _ _ _ T M w a pb j _ (fun D G L p K=>?_);show(if a0=id then Q .normal D G else Q (.exit a0) D G);split at g
   ·rename_i Z;simp at g;obtain⟨rfl,rfl,rfl⟩:=g;rw [if_pos Z];exact u D G L p K
   ·rename_i Z;simp at g;obtain⟨rfl,rfl,rfl⟩:=g;rw [if_neg Z];exact u D G L p K
  ·rename_i O;refine ihx i _ _ _ _ _ g M w a pb j _ (fun D G L p K=>?_);have V:=u D G L p K
   cases A with
   |normal=>exact V
   |exit id=>exact absurd g (O _ _ _)
   |ret=>exact V
 |loop x ihx=>
  intro i z h A m h' g;simp only [gG]at i;simp only [dM]at g;intro M w a pb j Q u;refine wp_loop_rounds N ?_;have a4: ∀(k:Nat)(z:Fr)(h:Heap),jF (dM E f cf N x) k z h=some (A,m,h')-> ∀M w a pb,Sim E B n M h w z a pb->
    (∀a' w' M' pb',Nxt E B n M h w a m.ff h' a' w' M' pb'->Q A.toExit a' w')->Code.rounds E.P x Q k a w:=by
   intro k
   induction k with
   |zero=>intro z h g;simp [jF]at g
   |succ k ihk=>
    intro z h g M w a pb j u;rw [rounds_succ];unfold jF at g;split at g
    ·rename_i X h1 T;refine ihx i _ _ _ _ _ T M w a pb j _ (fun D G L p K=>?_);show Code.rounds E.P x Q k D G;exact ihk X h1 g L G D p (K.sim j.le) (fun a2 w2 M2 Y hy=>u a2 w2 M2 Y (K.trans' hy))
    ·rename_i O;refine ihx i _ _ _ _ _ g M w a pb j _ (fun D G L p K=>?_);have V:=u D G L p K
     cases A with
     |normal=>exact absurd g (O _ _)
     |exit id=>exact V
     |ret=>exact V
  exact a4 N z h g M w a pb j u
 |rangeFunc f ps x y ihx ihy=>
  intro i z h A m h' g;simp [dM]at g
 |exit id=>
  intro i z h A m h' g;simp [dM]at g;obtain⟨rfl,rfl,rfl⟩:=g;intro M w a pb j Q u;exact wp_exit (u a w M pb ⟨j.fr,j.inv,j.glob,Pres.refl _ _ _ _,rfl⟩)
 |scope x ihx=>
  intro i z h A m h' g;simp only [gG]at i;simp only [dM]at g;intro M w a pb j Q u;refine wp_scope_straight ?_;refine ihx i _ _ _ _ _ g M w a pb j _ (fun D G L p K=>?_);have V:=u D G L p K
  cases A<;>exact V
 |label l=>
  intro i z h A m h' g;simp [dM]at g
 |goto l=>
  intro i z h A m h' g;simp [dM]at g
 |ret=>
  intro i z h A m h' g;simp [dM]at g;obtain⟨rfl,rfl,rfl⟩:=g;intro M w a pb j Q u;exact wp_ret (u a w M pb ⟨j.fr,j.inv,j.glob,Pres.refl _ _ _ _,rfl⟩)
 |refuse s=>
  intro i z h A m h' g;simp [dM]at g
def d0I(g:Array Value):ResultVar->Sem Value
 | .tmp t=>pure (g.getD t undef)
 | .cell a t=>do loadVar t (<-asAddr (g.getD a undef))
theorem c0H(fn:Func)(g:Array Value):results fn g=(do let vs<-fn.results.mapM (d0I g);pure (if h:vs.size=1 then vs[0]else .tuple vs)):=rfl
theorem a7V{M:Meta}{h:Heap}{w:World}{D:Fr}{a:Act}{pb:Nat->Nat}(l:Sim E B n M h w D a pb): ∀{rs:List ResultVar}{vs:List IV},iA E.P D h rs=some vs->
  ∃rv:List Value,(rs.mapM (d0I a.tmps)).run E.P w= .ok rv w/\cW M vs rv
 | [],vs,hr=>by simp [iA]at hr;subst hr;exact⟨[],rfl,cW.nil M⟩
 |r::rs,vs,hr=>by
  unfold iA at hr;split at hr
  case h_2=>simp at hr
  rename_i v T h1 h2;simp at hr;subst hr;obtain⟨rv,h3,h4⟩:=a7V l h2;have m: ∃q,(d0I a.tmps r).run E.P w= .ok q w/\VR M v q:=by
   cases r with
   |tmp t=>
    simp only [wB]at h1;exact⟨_,rfl,l.fr.tm t _ (a2I h1)⟩
   |cell ad t=>
    simp only [wB]at h1;split at h1
    ·rename_i s g j;split at h1
     case h_2=>simp at h1
     rename_i cs A;have p:a.tmps.getD ad undef= .pointer (some ⟨pb s,g,none⟩):=l.fr.tm ad _ j;obtain⟨_,_,_,rc,el,fz,G,k5,V⟩:=l.fr.loc s cs A;obtain⟨q,y,z⟩:=wD (P:=E.P) (w:=w) (b:=pb s) (base:=0) V (fun i L=>by simp [World.cell?,G,show i<rc.size by simpa using L]) h1;refine⟨q,?_,z⟩;simp only [d0I,p,asAddr,h1K,h1R,h1F];simpa using y
    ·rename_i id g j;split at h1
     case h_2=>simp at h1
     rename_i cs Y;have p:VR M (.ptr id g) (a.tmps.getD ad undef):=l.fr.tm ad _ j;generalize hq:a.tmps.getD ad undef=pr at p
     cases p with
     | @ptr _ _ b hl=>
      obtain⟨b',rc,u,l2,l3,Z,K⟩:=l.inv.row Y;rw [hl]at u;simp at u;subst u;obtain⟨q,y,z⟩:=wD (P:=E.P) Z K h1;refine⟨q,?_,z⟩;simp only [d0I,hq,asAddr,h1K,h1R,h1F];simpa using y
    ·simp at h1
  obtain⟨q,X,O⟩:=m;refine⟨q::rv,?_,cW.cons O h4⟩;simp only [h8M,h1K,X,h1F,h3,h1R]
def a2L(rv:List Value):Value:=if h:rv.toArray.size=1 then rv.toArray[0]else .tuple rv.toArray
theorem b4I{M:Meta}{vs:List IV}{rv:List Value}(h2:cW M vs rv):VR M (eZ vs) (a2L rv):=by
 unfold a2L
 have g:=h2.1
 cases vs with
 |nil=>
  cases rv with
  |nil=>exact dT h2
  |cons _ _=>simp at g
 |cons v vs'=>
  cases rv with
  |nil=>simp at g
  |cons q rv'=>
   cases vs' with
   |nil=>
    cases rv' with
    |nil=>
     have:=h2.2 0 (by simp) (by simp);simpa [eZ]using this
    |cons _ _=>simp at g
   |cons v2 vs2=>
    cases rv' with
    |nil=>simp at g
    |cons q2 rv2=>
     have: ¬ ((q::q2::rv2).toArray.size=1):=by simp
     rw [dif_neg this];exact dT h2
theorem c0I{M:Meta}{h:Heap}{w:World}{g:Fr}{a:Act}{pb:Nat->Nat}(l:Sim E B n M h w g a pb){fn:Func}{vs:List IV}(i:iA E.P g h fn.results.toList=some vs):
  ∃rv,(results fn a.tmps).run E.P w= .ok (a2L rv) w/\cW M vs rv:=by
 obtain⟨rv,h1,h2⟩:=a7V l i;have j:(fn.results.mapM (d0I a.tmps)).run E.P w= .ok rv.toArray w:=by
  rw [h7N];simp only [Sem.run_map];rw [h1];rfl
 refine⟨rv,?_,h2⟩;rw [c0H];simp only [h1K,j,h1F,h1R];rfl
theorem rS: ∀(g:List IV)(i:Nat)(t:PT TV)(k:Nat),(kM g i t).get k=if i<=k/\k<i+g.length then(g[k-i]?).map .v else t.get k
 | [],i,t,k=>by
  rw [if_neg (by simp only [h1U];omega)];rfl
 |v::r,i,t,k=>by
  unfold kM
  rw [rS r (i+1) _ k,PT.get_set]
  by_cases h1:k=i
  ·subst h1;rw [if_neg (by omega),if_pos rfl,if_pos ⟨h1D _,by simp⟩];simp
  ·by_cases h2:i+1<=k/\k<i+1+r.length
   ·rw [if_pos h2,if_pos ⟨by omega,by simp;omega⟩];rw [show k-i=(k- (i+1))+1 by omega];simp
   ·rw [if_neg h2,if_neg h1,if_neg (by simp;omega)]
theorem b4J{cf:FuncId->List IV->Heap->Option (IV×Heap)}(Y:b4D E cf)(D:qS E cf)(hm:E.P.follows .mixedOrders=true){g:FuncId}{fn:Func}{c:Code}(X:E.P.funcs[g]?=some fn)(y:fn.body=some c)(T:gG fn.ntmps c=true)
  {xs vs:List IV} {h h1:Heap} (hr:iJ E g cf N fn.results.toList c xs h=some (vs,h1)) {M:Meta} {w:World} {rs:List Value} (hI:Inv M h w) (hG:GOK E M) (hrs:cW M xs rs):
  Calls E.P g rs.toArray w fun e w'=> ∃rv M',e= .returned (a2L rv)/\cW M' vs rv/\Inv M' h1 w'/\Pres w.heap.size M h w M' h1 w':=by
 have fin: ∀(K:Ex)(u:Fr),(K= .normal\/K= .ret)->dM E g cf N c ⟨kM xs 0 .nil,.nil⟩ h=some (K,u,h1)->iA E.P u h1 fn.results.toList=some vs->
   Calls E.P g rs.toArray w fun e w'=> ∃rv M',e= .returned (a2L rv)/\cW M' vs rv/\Inv M' h1 w'/\Pres w.heap.size M h w M' h1 w':=by
  intro K u V i A;refine calls_of_wp X y ?_;have Z:xs.length=rs.length:=hrs.1;have z: ∀t,((rs.toArray++Array.replicate (fn.ntmps-rs.toArray.size) undef).getD t undef)=(rs[t]?).getD undef:=by
   intro t;rw [h3G]
   by_cases p:t<rs.length
   ·rw [h7J (by simpa using p)];simp
   ·rw [Array.getElem?_append_right (by simp;omega)];simp only [h2E (Nat.le_of_not_lt p),Option.getD_none,h7V];split<;>rfl
  have L:Sim E w.heap.size fn.ntmps M h w ⟨kM xs 0 .nil,.nil⟩ {tmps:=rs.toArray++Array.replicate (fn.ntmps-rs.toArray.size) undef,defers:=[] } (fun _=>0):=by
   refine⟨hG,hI,⟨by simp;omega,fun t tv p=>?_,fun s cs e=>by simp [Fr.ff,PT.get]at e,fun s s' c1 c2 e=>by simp [Fr.ff,PT.get]at e,fun k s a1 e=>by
    simp only [Fr.ff,rS]at e;split at e
    ·obtain⟨x,_,h2⟩:=h0W.1 e;cases h2
    ·simp [PT.get]at e⟩,h1D _⟩
   simp only [Fr.ff,rS]at p;rw [z];split at p
   ·rename_i hb;simp only [h7X]at p;obtain⟨x,m,rfl⟩:=h0W.1 p;obtain⟨r,l,j⟩:=hrs.get m;rw [l];exact j
   ·simp [PT.get]at p
  refine d3T (B:=w.heap.size) Y D hm c T _ _ _ _ _ i M w _ _ L _ (fun a' w' M' a0 m=>?_);obtain⟨rv,l,j⟩:=c0I (m.sim (h1D _)) A;rcases V with rfl|rfl
  ·exact⟨m.defers,a2L rv,l,rv,M',rfl,j,m.inv,m.pres⟩
  ·exact⟨m.defers,a2L rv,l,rv,M',rfl,j,m.inv,m.pres⟩
 unfold iJ at hr;split at hr
 ·rename_i u h' i;obtain⟨q,O,G⟩:=h0W.1 hr;simp only [h2M]at G;obtain⟨rfl,rfl⟩:=G;exact fin .normal u (.inl rfl) i O
 ·rename_i u h' i;obtain⟨q,O,G⟩:=h0W.1 hr;simp only [h2M]at G;obtain⟨rfl,rfl⟩:=G;exact fin .ret u (.inr rfl) i O
 ·cases hr
theorem d3U{M r:Meta}{h h2:Heap}{w w':World}(a:Inv M h w)(O:Inv r h2 w')(u:Pres w.heap.size M.pure Heap.empty w r h2 w'):
  ∃M3,Inv M3 h w'/\Pres w.heap.size M h w M3 h w'/\(∀b o v,r.im b o=some v->M3.im b o=some v)/\(∀b n,r.bsz b=some n->M3.bsz b=some n):=by
 have A: ∀b,b<w.heap.size->w'.heap[b]?=w.heap[b]?/\∀o,r.im b o=M.im b o:=fun b i=>by
  obtain⟨h1,_,h3⟩:=u.keep b i (by rintro⟨id,e⟩;simp [Wb,Heap.empty,Heap.get,PT.get]at e);exact⟨h1,h3⟩
 let M3:Meta:= {M with im:=fun b o=>if b<w.heap.size then M.im b o else r.im b o,bsz:=fun b=>match M.bsz b with|some n=>some n|none=>r.bsz b }
 have g: ∀b o,b<w.heap.size->M3.im b o=M.im b o:=fun b o i=>if_pos i
 have D:Ext M M3:=⟨h1D _,fun _ _ e=>e,fun b o v e=>by
  have i:b<w.heap.size:=by
   have:=a.im b o v e;unfold World.cell? at this;rcases h2D b w.heap.size with q|q
   ·exact q
   ·simp [Array.getElem?_eq_none q]at this
  rw [g b o i];exact e,fun b n e=>by simp [M3,e],fun _ _=>h1D _,fun _ _ _=>rfl⟩
 have K: ∀b n,M.bsz b=some n->M3.bsz b=M.bsz b:=fun b n e=>by simp [M3,e]
 have p: ∀{b rc},Blk M w b rc->Blk M3 w' b rc:=fun l=>l.keep (A _ l.lt).1 (K _ _ l.bsz)
 refine⟨M3,⟨a.nid,a.fresh,a.freshl,fun id cs e=>?_,fun id n e=>?_,fun id es e=>?_,fun b o v e=>?_,fun b n e=>?_,a.one,a.resv⟩,⟨D,u.size,u.os,u.tape,u.output,fun b i V=>⟨(A b i).1,V,fun o=>g b o i⟩⟩,fun b o v e=>?_,fun b n e=>?_⟩
 ·obtain⟨b,rc,z,j,y,L,T⟩:=a.cells id cs e;exact⟨b,rc,z,p j,y,L.mono D,fun o=>by rw [g b o j.lt];exact T o⟩
 ·obtain⟨X,b,e',rc,z,j,y,L⟩:=a.tips id n e;exact⟨X,b,e',rc,z,p j,y,fun o Y=>by rw [g b o j.lt];exact L o Y⟩
 ·obtain⟨b,ents,Z,z,j,y⟩:=a.maps id es e;exact⟨b,ents,Z,z,(A b (cL j)).1.trans j,⟨y.1.1.mono D,y.1.2.mono D⟩,y.2⟩
 ·simp only [M3]at e;split at e
  ·rename_i i;have h1:=a.im b o v e;unfold World.cell? at h1⊢;simp only at h1⊢;rw [(A b i).1];exact h1
  ·exact O.im b o v e
 ·simp only [M3]at e;split at e
  ·rename_i m G;have:=a.bsz b m G;have:=u.size;omega
  ·exact O.bsz b n e
 ·simp only [M3];split
  ·rename_i i;rw [<- (A b i).2 o];exact e
  ·exact e
 ·simp only [M3];split
  ·rename_i m G;have:=u.ext.bsz b m G;rw [this]at e;exact e
  ·exact e
theorem e5G{M:Meta}{h:Heap}{w:World}(a:Inv M h w):Inv M.pure Heap.empty w where
 nid:=rfl
 fresh:=fun id _=>by simp [Heap.empty,Heap.get,PT.get]
 freshl:=fun _ _=>rfl
 cells:=fun id cs e=>by simp [Heap.empty,Heap.get,PT.get]at e
 tips:=fun id n e=>by simp [Heap.empty,Heap.get,PT.get]at e
 maps:=fun id i e=>by simp [Heap.empty,Heap.get,PT.get]at e
 im:=a.im
 bsz:=a.bsz
 one:=fun id g b e _=>by simp [Wb,Heap.empty,Heap.get,PT.get]at e
 resv:=fun id e=>by simp [Heap.empty,Heap.get,PT.get]at e
theorem b4K(E:Env): ∀N,qS E (jH E N)
 |0=>fun g p xs h v h' i=>by simp [jH]at i
 |N+1=>fun g p xs h v h' i=>by
  rw [iY]at i;split at i
  case h_2=>simp at i
  rename_i fn m;split at i
  case h_2=>simp at i
  rename_i c j;simp only [p]at i;split at i
  case isFalse=>simp at i
  rename_i r;split at i
  case h_2=>simp at i
  rename_i vs h1 y;obtain⟨z,l,u⟩:=h0W.1 i;simp only [h2M]at u;obtain⟨rfl,rfl⟩:=u;refine⟨rfl,fun h2=>?_⟩;rw [iY];simp only [m,j,p,r,y,l,if_true,h4C]
theorem b4L(V:E.P.follows .mixedOrders=true)(D:yX E.P=true): ∀N,b4D E (jH E N)
 |0=>fun g xs h v h' j=>by simp [jH]at j
 |N+1=>fun g xs h v h' j=>by
  have ih:=b4L V D N;rw [iY]at j;split at j
  case h_2=>simp at j
  rename_i fn p;split at j
  case h_2=>simp at j
  rename_i c i;have m:c0E fn=true:=by
   unfold yX at D;rw [h2L]at D;have:fn∈E.P.funcs.toList:=by
    rw [<-Array.getElem?_toList]at p;exact h3C p
   exact D fn this
  unfold c0E at m;rw [i]at m;simp only [h0Y,h2K]at m;refine⟨⟨fn,p,by simp [i],m.2⟩,fun M w rs Z hG A=>?_⟩;split at j
  ·split at j
   case h_2=>simp at j
   rename_i vs h1 L;refine(b4J ih (b4K E N) V p i m.1 L Z hG (c5N (E:=E) (f:=g) (ts:=fn.params.toList) A)).mono fun e w'=>?_
   rintro⟨rv,M',h2,h3,h4,z⟩;obtain⟨r,g1,g2,g3⟩:=c0C E g h4 (b4I (c5N (E:=E) (f:=g) (ts:=fn.resultTypes.toList) h3));simp only [h0V]at j;rw [j]at g1 g2 g3;exact⟨_,r,h2,g3,g1,z.trans (g2.mono z.size)⟩
  ·split at j
   case isFalse=>simp at j
   rename_i X;split at j
   case h_2=>simp at j
   rename_i vs h1 L;obtain⟨v',l,hq⟩:=h0W.1 j;simp only [h2M]at hq;obtain⟨rfl,rfl⟩:=hq;have u:cW M.pure (hY E.P fn.params.toList xs) rs:=b3T (M:=M) (M':=M.pure) (fun _ _ _ e=>e) (fun _ _ e=>e) (wC A) X;have a0:GOK E M.pure:=fun g cs e=>(show VR M.pure.pure (.vref cs 0) _ from hG g cs e)
   refine(b4J ih (b4K E N) V p i m.1 L (e5G Z) a0 u).mono fun e w'=>?_
   rintro⟨rv,M',h2,h3,h4,z⟩;have G: ∃r y,Inv r y w'/\Pres w.heap.size M.pure Heap.empty w r y w'/\cW r (a2F E g vs h1) rv:=by
    unfold a2F
    split
    ·obtain⟨r,Y,O,T,_⟩:=a1V b0K vs M' h1 w' rv h4 h3;exact⟨r,_,Y,z.trans (O.mono z.size),T⟩
    ·exact⟨M',h1,h4,z,h3⟩
   obtain⟨r,y,Y,O,T⟩:=G;obtain⟨M3,d1,d2,d3,d4⟩:=d3U Z Y O;unfold b0C at l;simp only at l;split at l
   case isFalse=>cases l
   rename_i K;simp only [h0V]at l;subst l;exact⟨_,M3,h2,b4I (b3T d3 d4 (wC T) K),d1,d2⟩
end
section
variable {E:Env} {f:FuncId} {cf cf':FuncId->List IV->Heap->Option (IV×Heap)} {ops:List Oper} {draw:Bool} {bef:Nat->Nat}
def b4M(cf cf':FuncId->List IV->Heap->Option (IV×Heap)):Prop:= ∀g xs h r,cf g xs h=some r->cf' g xs h=some r
theorem a7W(i:b4M cf cf'){o:Oper}{ev:Operand->Option TV}{lv:Nat->Option (List IV)}{h:Heap}{e:Ef}(g:dX E f cf draw o ev lv h=some e):dX E f cf' draw o ev lv h=some e:=by
 unfold dX at g⊢
 cases hp:eN E f o ev with
 |some q=>simp only [hp]at g⊢;exact g
 |none=>
 simp only [hp]at g⊢
 cases hl:gD E o ev lv with
 |some q=>simp only [hl]at g⊢;exact g
 |none=>
 simp only [hl]at g⊢
 cases hs:gZ E o ev lv with
 |some q=>simp only [hs]at g⊢;exact g
 |none=>
 simp only [hs]at g⊢
 cases hr:dP E o ev h with
 |some q=>simp only [hr]at g⊢;exact g
 |none=>
 simp only [hr]at g⊢
 cases hee:gV E f o ev h with
 |some q=>simp only [hee]at g⊢;exact g
 |none=>
 simp only [hee]at g⊢
 cases hcl:dJ o ev with
 |none=>simp only [hcl]at g;cases g
 |some q=>
 simp only [hcl]at g⊢
 cases hcf:cf q.1 q.2 h with
 |none=>simp only [hcf]at g;cases g
 |some r=>simp only [hcf,i _ _ _ _ hcf]at g⊢;exact g
theorem d3V(j:b4M cf cf'){o:Oper}{i:Nat->Option TV}{lv:Nat->Option (List IV)}{h:Heap}{e:Ef}(g:uN E f cf ops draw o i lv h=some e):uN E f cf' ops draw o i lv h=some e:=by
 unfold uN at g⊢;split at g
 ·cases g
 ·exact g
 ·exact a7W j g
theorem a7X(j:b4M cf cf'){rs:Option Nat}{o:Oper}{g:Nat->Option TV}{lv:Nat->Option (List IV)}{h:Heap}{e:Ef}(i:dE E f cf ops draw rs o g lv h=some e):dE E f cf' ops draw rs o g lv h=some e:=by
 cases rs with
 |none=>exact d3V j i
 |some n=>exact i
theorem rT(y:b4M cf cf'){u:List Nat}{rs:Nat->Option Nat} : ∀{l:List (Oper×Nat)}{m:Met}{p:Pd}{j:Fr}{h:Heap}{r:Fr×Heap},mL E f cf ops draw bef u rs l m p j h=some r->mL E f cf' ops draw bef u rs l m p j h=some r
 | [],_,_,_,_,_,he=>he
 | (o,i)::l,m,p,j,h,r,he=>by
  unfold mL at he⊢;split at he
  ·rename_i e g;simp only [a7X y g];split at he
   ·rename_i z;rw [if_pos z];exact rT y he
   ·cases he
  ·cases he
theorem pY{i g:Fr->Heap->Option (Ex×Fr×Heap)}(u: ∀j h r,i j h=some r->g j h=some r): ∀{n m:Nat}{j:Fr}{h:Heap}{r:Ex×Fr×Heap},n<=m->jF i n j h=some r->jF g m j h=some r
 |0,_,_,_,_,_,he=>by simp [jF]at he
 |n+1,0,_,_,_,hn,_=>by omega
 |n+1,m+1,j,h,r,hn,he=>by
  unfold jF at he⊢;split at he
  ·rename_i z h' l;simp only [u _ _ _ l];exact pY u (h6N hn) he
  ·rename_i y;rw [u _ _ _ he];split
   ·rename_i z h' p
    cases p
    exact absurd he (y _ _)
   ·rfl
theorem tG(D:b4M cf cf'){n m:Nat}(A:n<=m): ∀{c:Code}{i:Fr}{h:Heap}{r:Ex×Fr×Heap},dM E f cf n c i h=some r->dM E f cf' m c i h=some r:=by
 intro c
 induction c with
 |region id ops draw=>
  intro i h r g;simp only [dM]at g⊢;split at g
  ·rename_i j h' z;simp only [rT D z];exact g
  ·cases g
 |seq a b iha ihb=>
  intro i h r g;simp only [dM]at g⊢;split at g
  ·rename_i j h' u;simp only [iha u];exact ihb g
  ·rename_i p;rw [iha g];split
   ·rename_i j h' l
    cases l
    exact absurd g (p _ _)
   ·rfl
 |cond c a b iha ihb=>
  intro i h r g;simp only [dM]at g⊢;split at g
  ·exact iha g
  ·exact ihb g
  ·cases g
 |block id c ih=>
  intro i h r g;simp only [dM]at g⊢;split at g
  ·rename_i y j h' u;simp only [ih u];exact g
  ·rename_i p;rw [ih g];split
   ·rename_i y j h' l
    cases l
    exact absurd g (p _ _ _)
   ·rfl
 |loop c ih=>
  intro i h r g;simp only [dM]at g⊢;exact pY (fun _ _ _ q=>ih q) A g
 |scope c ih=>
  intro i h r g;simp only [dM]at g⊢;exact ih g
 |_=>intro i h r g;first|exact g| (simp only [dM]at g⊢;exact g)
theorem wR(l:b4M cf cf'){n m:Nat}(p:n<=m){rs:List ResultVar}{c:Code}{g:List IV}{h:Heap}{r:List IV×Heap}(i:iJ E f cf n rs c g h=some r):iJ E f cf' m rs c g h=some r:=by
 unfold iJ at i⊢;split at i
 ·rename_i u h' j;simp only [tG l p j];exact i
 ·rename_i u h' j;simp only [tG l p j];exact i
 ·cases i
theorem oQ{E:Env} : ∀{n m:Nat},n<=m->b4M (jH E n) (jH E m)
 |0,_,_=>fun g xs h r i=>by simp [jH]at i
 |n+1,0,hn=>by omega
 |n+1,m+1,hn=>fun g xs h r i=>by
  have p:=oQ (E:=E) (h6N hn);have j:=h6N hn;rw [iY]at i⊢;split at i
  ·rename_i fn z;split at i
   ·rename_i c y;split at i
    ·split at i
     ·rename_i vs h' l;simp only [wR p j l];exact i
     ·cases i
    ·split at i
     ·rename_i u;rw [if_pos u];split at i
      ·rename_i vs h' l;simp only [wR p j l];exact i
      ·cases i
     ·cases i
   ·cases i
  ·cases i
def FF.forget(F:FF):List Nat->FF
 | []=>F
 |s::r=>FF.forget {tm:=(F.clr s).tm,lv:=fun k=>if k=s then none else F.lv k } r
def FF.start(E:Env)(f:FuncId)(ops:List Oper)(draw:Bool)(F:FF):FF:=if draw then F.forget (ops.filterMap (b9O E f))else F
theorem a7Y: ∀(l:List Nat)(g:Fr),(g.forget l).ff=g.ff.forget l
 | [],_=>rfl
 |s::r,g=>by
  unfold Fr.forget FF.forget
  rw [a7Y r]
  congr 1
  simp only [Fr.ff,FF.clr]
  congr 1
  ·funext k;rw [PT.get_filt];cases g.tm.get k<;>rfl
  ·funext k;rw [PT.get_set]
theorem d3W(g:Fr)(ops:List Oper)(draw:Bool):(g.start E f ops draw).ff=g.ff.start E f ops draw:=by
 unfold Fr.start FF.start
 split
 ·exact a7Y _ _
 ·rfl
end
def aU(E:Env)(g:FuncId)(xs:List IV)(h:Heap)(Q:IV->Heap->Prop):Prop:= ∃n v h',jH E n g xs h=some (v,h')/\Q v h'
abbrev Ps:=List (Nat×(Heap->Prop))
def Pok:Pd->Ps->Prop
 | [],[]=>True
 |p::r,q::s=>(p.1=q.1/\∀h2,q.2 h2->p.2 h2=true)/\Pok r s
 |_,_=>False
def c5O(ps:Ps)(b:Nat)(h:Heap):Prop:= ∀q∈ps,b.testBit q.1=true\/q.2 h
theorem Pok.all: ∀{g:Pd}{ps:Ps}{b:Nat}{h:Heap},Pok g ps->c5O ps b h->g.all (fun p=>b.testBit p.1||p.2 h)=true
 | [],[],_,_,_,_=>rfl
 |p::r,q::s,b,h,hp,hw=>by
  rw [h5T,h0Y,h2Z];refine⟨?_,Pok.all hp.2 fun x i=>hw x (h2N _ i)⟩;rw [hp.1.1];rcases hw q h2C with z|z
  ·exact .inl z
  ·exact .inr (hp.1.2 h z)
 | [],_::_,_,_,hp,_=>hp.elim
 |_::_,[],_,_,hp,_=>hp.elim
def a2M(E:Env)(f:FuncId)(ops:List Oper)(draw:Bool)(bef:Nat->Nat)(j:List Nat)(rs:Nat->Option Nat)(l:List (Oper×Nat))(m:Met)(ps:Ps)(F:FF)(h:Heap)(Q:FF->Heap->Prop):Prop:=
 ∀(g:Fr)(i:Pd),Pok i ps->g.ff=F-> ∃n fr' h',mL E f (jH E n) ops draw bef j rs l m i g h=some (fr',h')/\Q fr'.ff h'
def bU(E:Env)(f:FuncId)(c:Code)(F:FF)(h:Heap)(Q:Ex->FF->Heap->Prop):Prop:=
 ∀fr:Fr,fr.ff=F-> ∃n x fr' h',dM E f (jH E n) n c fr h=some (x,fr',h')/\Q x fr'.ff h'
section
variable {E:Env} {f:FuncId}
theorem bU.mono{c:Code}{F:FF}{h:Heap}{Q R:Ex->FF->Heap->Prop}(a:bU E f c F h Q)(l: ∀x F' h',Q x F' h'->R x F' h'):bU E f c F h R:=fun i j=>by
 obtain⟨n,x,g,h',h1,h2⟩:=a i j;exact⟨n,x,g,h',h1,l _ _ _ h2⟩
theorem bU.up{c:Code}{g:Fr}{h:Heap}{n m:Nat}(i:n<=m){r:Ex×Fr×Heap}(h1:dM E f (jH E n) n c g h=some r):dM E f (jH E m) m c g h=some r:=
 tG (oQ i) i h1
theorem bU.skip{F:FF}{h:Heap}{Q:Ex->FF->Heap->Prop}(i:Q .normal F h):bU E f .skip F h Q:=fun j g=>⟨0,_,_,_,rfl,by rw [g];exact i⟩
theorem bU.exit{id:Nat}{F:FF}{h:Heap}{Q:Ex->FF->Heap->Prop}(i:Q (.exit id) F h):bU E f (.exit id) F h Q:=fun j g=>⟨0,_,_,_,rfl,by rw [g];exact i⟩
theorem bU.ret{F:FF}{h:Heap}{Q:Ex->FF->Heap->Prop}(i:Q .ret F h):bU E f .ret F h Q:=fun j g=>⟨0,_,_,_,rfl,by rw [g];exact i⟩
theorem bU.seq{a b:Code}{F:FF}{h:Heap}{Q:Ex->FF->Heap->Prop}(p:bU E f a F h fun x l h'=>match x with| .normal=>bU E f b l h' Q|x=>Q x l h'):bU E f (.seq a b) F h Q:=fun u A=>by
 obtain⟨n,x,g,h1,r1,j⟩:=p u A
 cases x with
 |normal=>
  obtain⟨m,y,i,h2,r,z⟩:=j g rfl;refine⟨max n m,y,i,h2,?_,z⟩;simp only [dM,bU.up (h8G n m) r1];exact bU.up (h6R n m) r
 |exit id=>exact⟨n,_,g,h1,by simp only [dM,r1],j⟩
 |ret=>exact⟨n,_,g,h1,by simp only [dM,r1],j⟩
theorem bU.cond{x:Operand}{b:Bool}{c d:Code}{F:FF}{h:Heap}{Q:Ex->FF->Heap->Prop}(p:bC E F.tm x=some (.v (.bool b)))(r:b=true->bU E f c F h Q)(hd:b=false->bU E f d F h Q):
  bU E f (.cond x c d) F h Q:=fun j m=>by
 have i:bC E j.tm.get x=some (.v (.bool b)):=by rw [<-p,<-m];rfl
 cases b with
 |true=>
  obtain⟨n,y,g,h1,r1,l⟩:=r rfl j m;exact⟨n,y,g,h1,by simp only [dM,i,r1],l⟩
 |false=>
  obtain⟨n,y,g,h1,r1,l⟩:=hd rfl j m;exact⟨n,y,g,h1,by simp only [dM,i,r1],l⟩
theorem bU.block{id:Nat}{c:Code}{F:FF}{h:Heap}{Q:Ex->FF->Heap->Prop}(p:bU E f c F h fun x j h'=>match x with| .exit id'=>if id'=id then Q .normal j h' else Q (.exit id') j h'|x=>Q x j h'):bU E f (.block id c) F h Q:=fun l m=>by
 obtain⟨n,x,g,h1,r1,i⟩:=p l m
 cases x with
 |normal=>exact⟨n,_,g,h1,by simp only [dM,r1],i⟩
 |ret=>exact⟨n,_,g,h1,by simp only [dM,r1],i⟩
 |exit id'=>
  simp only at i
  by_cases hid:id'=id
  ·rw [if_pos hid]at i;exact⟨n,.normal,g,h1,by simp only [dM,r1,if_pos hid],i⟩
  ·rw [if_neg hid]at i;exact⟨n,.exit id',g,h1,by simp only [dM,r1,if_neg hid],i⟩
theorem bU.scope{c:Code}{F:FF}{h:Heap}{Q:Ex->FF->Heap->Prop}(m:bU E f c F h Q):bU E f (.scope c) F h Q:=fun i l=>by
 obtain⟨n,x,g,h1,r1,j⟩:=m i l;exact⟨n,x,g,h1,by simp only [dM,r1],j⟩
theorem bU.loop{c:Code}{F:FF}{h:Heap}{Q:Ex->FF->Heap->Prop}(T:bU E f c F h fun x z h'=>match x with| .normal=>bU E f (.loop c) z h' Q|x=>Q x z h'):bU E f (.loop c) F h Q:=fun u O=>by
 obtain⟨n,x,i,h1,r1,p⟩:=T u O;have j: ∀(y:Ex)(g:Fr)(h2:Heap)(k:Nat),n<=k->(∀l h',(some (x,i,h1):Option (Ex×Fr×Heap))=some (.normal,l,h')->jF (dM E f (jH E (k+1)) (k+1) c) k l h'=some (y,g,h2))->(x≠ .normal->y=x/\g=i/\h2=h1)->
   dM E f (jH E (k+1)) (k+1) (.loop c) u h=some (y,g,h2):=by
  intro y g h2 k G K A;simp only [dM];unfold jF
  rw [bU.up (h7L G) r1]
  cases x with
  |normal=>exact K _ _ rfl
  |exit id=>obtain⟨rfl,rfl,rfl⟩:=A (by simp);rfl
  |ret=>obtain⟨rfl,rfl,rfl⟩:=A (by simp);rfl
 cases x with
 |normal=>
  obtain⟨m,y,g,h2,r,L⟩:=p i rfl;refine⟨max n m+1,y,g,h2,j y g h2 _ (h8G n m) (fun l h' e=>?_) (fun e=>absurd rfl e),L⟩
  cases e
  simp only [dM]at r;have D:m<=max n m+1:=h7L (h6R n m);exact pY (fun _ _ _ q=>tG (oQ D) D q) (h6R n m) r
 |exit id=>exact⟨n+1,_,i,h1,j _ _ _ n (h1D n) (fun _ _ e=>by cases e) (fun _=>⟨rfl,rfl,rfl⟩),p⟩
 |ret=>exact⟨n+1,_,i,h1,j _ _ _ n (h1D n) (fun _ _ e=>by cases e) (fun _=>⟨rfl,rfl,rfl⟩),p⟩
theorem bU.region{id:Nat}{ops:Array Oper}{draw:Bool}{F:FF}{h:Heap}{Q:Ex->FF->Heap->Prop}(p:a2M E f ops.toList draw (a2D ops) (E.an f id) (b9R h.next (E.an f id)) (yM (E.od f id) draw ops.toList) {} [] (F.start E f ops.toList draw) (h.reserve (E.an f id).length) fun j h'=>Q .normal j h'):bU E f (.region id ops draw) F h Q:=fun i m=>by
 obtain⟨n,g,h1,r1,l⟩:=p (i.start E f ops.toList draw) [] trivial (by rw [d3W,m]);exact⟨n,_,g,h1,by simp only [dM,r1],l⟩
theorem a2M.nil{ops:List Oper}{draw:Bool}{bef:Nat->Nat}{j:List Nat}{rs:Nat->Option Nat}{m:Met}{ps:Ps}{F:FF}{h:Heap}{Q:FF->Heap->Prop}(g:Q F h):a2M E f ops draw bef j rs [] m ps F h Q:=fun i p r l=>⟨0,i,h,rfl,by rw [l];exact g⟩
def aY(h:Heap)(id k:Nat):Option IV:=match h.get id with
 | .cells cs=>cs[k]?
 |_=>none
def b0L(h h2:Heap)(id k:Nat):Prop:=aY h2 id k=aY h id k
def psQ(E:Env)(o:Oper)(ev:Operand->Option TV)(h h2:Heap):Prop:=match o.op with
 | .load t a=>match ev a with
  |some (.v (.ptr id off))=>match gA E.P t with
   |some (false,_)=>b0L h h2 id off
   |_=>mP h h2 (some id)
  |_=>True
 |_=>mP h h2 (jO o ev)
theorem f1R{E:Env}{o:Oper}{ev:Operand->Option TV}{h h2:Heap}{v:TV}(i:dP E o ev h=some v)(g:psQ E o ev h h2):dP E o ev h2=some v:=by
 unfold psQ at g;split at g
 ·rename_i t a j;split at g
  ·rename_i id y p;split at g
   ·rename_i n l;unfold dP at i⊢;simp only [j,p]at i⊢;unfold b0L aY at g;split at i
    ·rename_i cs z;rw [z]at g;simp only [fA,l]at i⊢;obtain⟨w,r,rfl⟩:=h0W.1 i;simp only at g;rw [r]at g;split at g
     ·rename_i A m;simp only [m,g,h4C]
     ·cases g
    ·cases i
   ·refine yU i ?_;unfold jO
    simp only [j,p];exact g
  ·rename_i u;unfold dP at i;simp only [j]at i
   cases i
 ·exact yU i g
def a7Z(E:Env)(o:Oper)(ev:Operand->Option TV)(e:Ef)(i:Nat)(ps:Ps):Ps:=match e.c with
 | .r=>(i,fun h2=>psQ E o ev e.h h2)::ps
 |_=>ps
theorem d0J{cf:FuncId->List IV->Heap->Option (IV×Heap)}{draw:Bool}{o:Oper}{ev:Operand->Option TV}{lv:Nat->Option (List IV)}{h:Heap}{e:Ef}(i:dX E f cf draw o ev lv h=some e)(j:e.c= .r):
  e.h=h/\∃v,dP E o ev h=some v/\e.v=some v:=by
 unfold dX at i;split at i
 ·repeat' split at i
  all_goals first
   | (cases i;done)
   | (cases i;cases j)
 ·split at i
  ·cases i;cases j
  ·split at i
   ·cases i;cases j
   ·split at i
    ·rename_i v l
     cases i
     exact⟨rfl,v,l,rfl⟩
    ·split at i
     ·cases i;cases j
     ·split at i
      ·split at i
       ·cases i
        rename_i g xs _ _ _ _ _;simp only [pS]at j;split at j<;>cases j
       ·cases i
      ·cases i
theorem Pok.add{cf:FuncId->List IV->Heap->Option (IV×Heap)}{draw:Bool}{ops:List Oper}{rs:Option Nat}{o:Oper}{j:Nat->Option TV}{lv:Nat->Option (List IV)}{h:Heap}{e:Ef}{i:Nat}{l:Pd}{ps:Ps}(g:dE E f cf ops draw rs o j lv h=some e)(y:Pok l ps):
  Pok (mK E o (bC E j) e i l) (a7Z E o (bC E j) e i ps):=by
 by_cases hc:e.c= .r
 ·unfold mK a7Z
  rw [hc];refine⟨⟨rfl,fun h2 u=>?_⟩,y⟩
  cases rs with
  |some n=>
   exfalso;rcases yW g with rfl| ⟨v,ha,rfl⟩| ⟨v,x,ha,_,rfl⟩<;>cases hc
  |none=>
  have g:uN E f cf ops draw o j lv h=some e:=g;unfold uN at g;split at g
  ·cases g
  ·cases g;cases hc
  ·obtain⟨p,v,m,z⟩:=d0J g hc;rw [p]at u;have A:=f1R m u;obtain⟨x,rfl⟩:=d3B m;simp only [A,z,e4I];exact yV x
 ·have p:mK E o (bC E j) e i l=l:=by
   unfold mK
   split
   ·rename_i h;exact absurd h hc
   ·rfl
  have m:a7Z E o (bC E j) e i ps=ps:=by
   unfold a7Z
   split
   ·rename_i h;exact absurd h hc
   ·rfl
  rw [p,m];exact y
theorem a2M.cons{ops:List Oper}{draw:Bool}{bef:Nat->Nat}{p:List Nat}{rs:Nat->Option Nat}{o:Oper}{i:Nat}{l:List (Oper×Nat)}{m:Met}{ps:Ps}{F:FF}{h:Heap}{Q:FF->Heap->Prop}
  (he: ∃n e,dE E f (jH E n) ops draw (rs i) o F.tm F.lv h=some e/\(draw=false\/ ((jE (m.chk e.c) (bef i)=true\/e.c= .e/\jE (m.e|||m.a) (bef i)=true/\c5O ps (bef i) e.h)/\b0B p rs m (bef i) (jO o (bC E F.tm)) e.c=true))/\a2M E f ops draw bef p rs l (m.add e.c i) (a7Z E o (bC E F.tm) e i ps) (F.app o.dst e) e.h Q):
  a2M E f ops draw bef p rs ((o,i)::l) m ps F h Q:=fun g A D u=>by
 obtain⟨n,e,h1,h2,h3⟩:=he;have j:dE E f (jH E n) ops draw (rs i) o g.tm.get g.lv.get h=some e:=by rw [<-h1,<-u];rfl
 have hev:bC E F.tm=bC E g.tm.get:=by rw [<-u];rfl
 rw [hev]at h2 h3;obtain⟨k,y,h',h4,K⟩:=h3 (g.app o.dst e) (mK E o (bC E g.tm.get) e i A) (Pok.add j D) (by rw [d3L,u]);refine⟨max n k,y,h',?_,K⟩;unfold mL
 have r:(!draw||okB p rs m A (bef i) (jO o (bC E g.tm.get)) e)=true:=by
  rw [h2Z];rcases h2 with z| ⟨z,T⟩
  ·exact .inl (by rw [z];rfl)
  ·refine .inr ?_;unfold okB
   rw [h0Y,h2Z];refine⟨?_,T⟩;rcases z with z| ⟨L,G,O⟩
   ·exact .inl z
   ·refine .inr ?_;unfold b9Q
    simp only [L,G,h2G];exact Pok.all D O
 simp only [a7X (oQ (h8G n k)) j,r,if_true];exact rT (oQ (h6R n k)) h4
end
structure GF where
 tm:PT (Option TV)
 lv:PT (Option (List IV))
 b:FF
def FF.none:FF:=⟨fun _=>Option.none,fun _=>Option.none⟩
def GF.tmg(F:GF)(k:Nat):Option TV:=match F.tm.get k with
 |some x=>x
 |none=>F.b.tm k
def GF.lvg(F:GF)(k:Nat):Option (List IV):=match F.lv.get k with
 |some x=>x
 |none=>F.b.lv k
def GF.ff(F:GF):FF:=⟨F.tmg,F.lvg⟩
def GF.put(F:GF)(d:Option Tmp)(v:Option TV):GF:=match d with
 |some t=> {F with tm:=F.tm.set t (some v) }
 |none=>F
def GF.lset(F:GF)(s:Nat)(cs:Option (List IV)):GF:= {F with lv:=F.lv.set s (some cs) }
def c5P(s:Nat):Option TV->Option TV
 |some y=>if rF s y then some y else none
 |none=>none
def PT.mapv{α:Type}(g:α->α):PT α->PT α
 | .nil=> .nil
 | .node l v r=> .node (l.mapv g) (match v with|some x=>some (g x)|none=>none) (r.mapv g)
def GF.clr(F:GF)(s:Nat):GF:= {F with tm:=F.tm.mapv (c5P s),b:=F.b.clr s }
def GF.app(F:GF)(d:Option Tmp)(e:Ef):GF:=match e.loc with
 |some (s,cs)=>match e.box with
  |true=>((F.clr s).lset s (some cs)).put d e.v
  |false=>(F.put d e.v).lset s (some cs)
 |none=>F.put d e.v
def GF.forget(F:GF):List Nat->GF
 | []=>F
 |s::r=>GF.forget ((F.clr s).lset s none) r
def GF.start(E:Env)(f:FuncId)(ops:List Oper)(draw:Bool)(F:GF):GF:=match draw with
 |true=>F.forget (ops.filterMap (b9O E f))
 |false=>F
structure Sp where
 br:Bool->Prop->Prop->Prop
 need:Bool->Prop->Prop
 ldI:IntKind->List IV->Nat->(Int->Prop)->Prop
 ldB:List IV->Nat->(Bool->Prop)->Prop
 ldS:List IV->Nat->(List UInt8->Prop)->Prop
 ldV:Nat->List IV->Nat->(Option Nat->Nat->Nat->List IV->Prop)->Prop
 ldA:List IV->Nat->(IV->Prop)->Prop
 chr:List UInt8->Nat->(Int->Prop)->Prop
 hget:Heap->Nat->(List IV->Prop)->Prop
 tip:Heap->Nat->(Nat->Prop)->Prop
 call:FuncId->List IV->Heap->(IV->Heap->Prop)->Prop
 ldNV:Nat->List IV->Nat->Prop->(Nat->Nat->Nat->List IV->Prop)->Prop
 ldNH:Nat->List IV->Nat->Prop->(Nat->Nat->Nat->Prop)->Prop
 mlook:Heap->Nat->TypeDesc->IV->(List IV->Prop)->Prop->Prop
 mupd:Heap->Nat->TypeDesc->IV->IV->(List (IV×IV)->Prop)->Prop
 byt:List IV->(List UInt8->Prop)->Prop
 ldM:List IV->Nat->(Nat->Prop)->Prop
 ldP:List IV->Nat->(Nat->Nat->Prop)->Prop
 app:Heap->Nat->Nat->IV->Nat->List IV->(Nat->Nat->Nat->List IV->Heap->Prop)->Prop
 fre:Heap->Nat->Prop->Prop
 ent:Heap->Nat->TypeDesc->IV->IV->(IV->Nat->List (IV×IV)->Prop)->Prop
 mput:Heap->Nat->Int->IV->(List (IV×IV)->Prop)->Prop
 ldNM:List IV->Nat->Prop->(Nat->Prop)->Prop
 ldG:Nat->List IV->Nat->(List IV->Prop)->Prop
def aM(b:Bool)(A B:Prop):Prop:=match b with
 |true=>A
 |false=>B
def aC(b:Bool)(A:Prop):Prop:=match b with
 |true=>A
 |false=>False
def aK(k:IntKind)(cs:List IV)(g:Nat)(K:Int->Prop):Prop:=match cs[g]? with
 |some (.int k' n)=>if k'=k then K n else False
 |_=>False
def iS(cs:List IV)(g:Nat)(K:Bool->Prop):Prop:=match cs[g]? with
 |some (.bool b)=>K b
 |_=>False
def bZ(cs:List IV)(g:Nat)(K:List UInt8->Prop):Prop:=match cs[g]? with
 |some (.str b)=>K b
 |_=>False
def bH(sz:Nat)(cs:List IV)(g:Nat)(K:Option Nat->Nat->Nat->List IV->Prop):Prop:=match cs[g]? with
 |some (.vslice id e len z cs')=>if z=sz then K id e len cs' else False
 |_=>False
def f1S(cs:List IV)(g:Nat)(K:IV->Prop):Prop:=match cs[g]? with
 |some v=>K v
 |none=>False
def a1A(s:List UInt8)(i:Nat)(K:Int->Prop):Prop:=match s[i]? with
 |some b=>K b.toNat
 |none=>False
def aF(h:Heap)(id:Nat)(K:List IV->Prop):Prop:=match h.get id with
 | .cells cs=>K cs
 |_=>False
def dG(h:Heap)(id:Nat)(K:Nat->Prop):Prop:=match h.get id with
 | .tip m=>K m
 |_=>False
def cK(sz:Nat)(cs:List IV)(g:Nat)(A:Prop)(K:Nat->Nat->Nat->List IV->Prop):Prop:=match cs[g]? with
 |some .nilslice=>A
 |some (.vslice (some id) e len z cs')=>if z=sz then K id e len cs' else False
 |_=>False
def cT(sz:Nat)(cs:List IV)(g:Nat)(A:Prop)(K:Nat->Nat->Nat->Prop):Prop:=match cs[g]? with
 |some .nilslice=>A
 |some (.hslice id o len z)=>if z=sz then K id o len else False
 |_=>False
def fV(h:Heap)(id:Nat)(d:TypeDesc)(g:IV)(K:List IV->Prop)(A:Prop):Prop:=match h.get id with
 | .map es=>match fU d g es with
  |some (some v)=>K [v]
  |some none=>A
  |none=>False
 |_=>False
def kS(h:Heap)(id:Nat)(d:TypeDesc)(g v:IV)(K:List (IV×IV)->Prop):Prop:=match h.get id with
 | .map es=>match oK d g v es with
  |some es'=>K es'
  |none=>False
 |_=>False
def g0H(cs:List IV)(K:List UInt8->Prop):Prop:=match lW cs with
 |some b=>K b
 |none=>False
def qY(cs:List IV)(g:Nat)(K:Nat->Prop):Prop:=match cs[g]? with
 |some (.map id)=>K id
 |_=>False
def g0I(cs:List IV)(g:Nat)(K:Nat->Nat->Prop):Prop:=match cs[g]? with
 |some (.ptr id o)=>K id o
 |_=>False
def qT(h:Heap)(sz g:Nat)(s:IV)(n:Nat)(xs:List IV)(K:Nat->Nat->Nat->List IV->Heap->Prop):Prop:=match s with
 | .nilslice=>n*g<=140737488355328/\K h.next (n*sz) n xs (h.push (.tip (n*sz)))
 | .vslice none 1 len z cs=>(z=sz/\(len+n)*g<=140737488355328)/\K h.next ((len+n)*sz) (len+n) (cs++xs) (h.push (.tip ((len+n)*sz)))
 | .vslice (some id) e len z cs=>(z=sz/\(len+n)*g<=140737488355328/\h.get id= .tip e)/\K id (e+n*sz) (len+n) (cs++xs) (h.set id (.tip (e+n*sz)))
 |_=>False
def yY(h:Heap)(n:Nat)(A:Prop):Prop:=match h.get n with
 | .free=>A
 |_=>False
def b4N(h:Heap)(id:Nat)(d:TypeDesc)(g z:IV)(K:IV->Nat->List (IV×IV)->Prop):Prop:=match h.get id with
 | .map es=>match a7J d g z es with
  |some r=>K r.1 r.2.1 r.2.2
  |none=>False
 |_=>False
def a1B(n:Nat)(cs:List IV)(g:Nat)(K:List IV->Prop):Prop:=match cs[g]? with
 |some (.agg xs)=>match Nat.beq xs.length n with
  |true=>K xs
  |false=>False
 |_=>False
def a2N(cs:List IV)(g:Nat)(A:Prop)(K:Nat->Prop):Prop:=match cs[g]? with
 |some .nilmap=>A
 |some (.map id)=>K id
 |_=>False
def a0M(h:Heap)(id:Nat)(n:Int)(v:IV)(K:List (IV×IV)->Prop):Prop:=match h.get id with
 | .map es=>(0<=n/\n<es.length)/\K (nN v n.toNat es)
 |_=>False
def aV(C:FuncId->List IV->Heap->(IV->Heap->Prop)->Prop):Sp where
 br:=aM
 need:=aC
 ldI:=aK
 ldB:=iS
 ldS:=bZ
 ldV:=bH
 ldA:=f1S
 chr:=a1A
 hget:=aF
 tip:=dG
 call:=C
 ldNV:=cK
 ldNH:=cT
 mlook:=fV
 mupd:=kS
 byt:=g0H
 ldM:=qY
 ldP:=g0I
 app:=qT
 fre:=yY
 ent:=b4N
 mput:=a0M
 ldNM:=a2N
 ldG:=a1B
structure Inv1 where
 X:Type
 slots:X->List (Nat×TV)
 locs:X->List (Nat×List IV)
 hp:X->Heap
 cond:X->Prop
 meas:X->Nat
 get:GF->Heap->Option X
def b4O:List (Nat×TV)->PT (Option TV)
 | []=> .nil
 | (s,v)::r=>(b4O r).set s (some (some v))
def b4P:List (Nat×List IV)->PT (Option (List IV))
 | []=> .nil
 | (s,v)::r=>(b4P r).set s (some (some v))
def uU(F:GF):List (Nat×TV)->Prop->Prop
 | [],A=>A
 | (s,v)::r,A=>F.tmg s=some v/\uU F r A
def uV(F:GF):List (Nat×List IV)->Prop->Prop
 | [],A=>A
 | (s,v)::r,A=>F.lvg s=some v/\uV F r A
inductive Inv' where
 |one (v:Inv1)
 |ex (v:Inv1)
 |or (a b:Inv')
def Inv'.J:Inv'->GF->Heap->(Nat->Prop)->Prop
 | .one v,F,h,P=>match v.get F h with
  |some x=>uU F (v.slots x) (uV F (v.locs x) (h=v.hp x/\v.cond x/\P (v.meas x)))
  |none=>False
 | .ex v,F,h,P=> ∃x:v.X,uU F (v.slots x) (uV F (v.locs x) (h=v.hp x/\v.cond x/\P (v.meas x)))
 | .or a b,F,h,P=>a.J F h P\/b.J F h P
def Inv'.I:Inv'->(GF->Heap->Nat->Prop)->Prop
 | .one v,K=> ∀(x:v.X)(b:FF),v.cond x->K ⟨b4O (v.slots x),b4P (v.locs x),b⟩ (v.hp x) (v.meas x)
 | .ex v,K=> ∀(x:v.X)(b:FF),v.cond x->K ⟨b4O (v.slots x),b4P (v.locs x),b⟩ (v.hp x) (v.meas x)
 | .or a b,K=>a.I K/\b.I K
section
variable (S:Sp) (E:Env) (f:FuncId)
def ldC(i:CK)(cs:List IV)(g:Nat)(K:IV->Prop):Prop:=match i with
 | .int k=>S.ldI k cs g fun n=>K (.int k n)
 | .bool=>S.ldB cs g fun b=>K (.bool b)
 | .str=>S.ldS cs g fun s=>K (.str s)
 | .slc sz=>S.ldV sz cs g fun id e len c=>K (.vslice id e len sz c)
 | .any=>S.ldA cs g K
def c0J:List CK->List IV->Nat->(List IV->Prop)->Prop
 | [],_,_,K=>K []
 |ck::r,cs,off,K=>ldC S ck cs off fun v=>c0J r cs (off+1) fun vs=>K (v::vs)
def ldK(t:TypeId)(cs:List IV)(g:Nat)(K:IV->Prop):Prop:=match gA E.P t with
 |some (false,_)=>ldC S (a9Z E.P t) cs g K
 |some (true,n+1)=>match Nat.beq (uC E.P 8 t).length (n+1)with
  |true=>c0J S (uC E.P 8 t) cs g fun vs=>K (.agg vs)
  |false=>False
 |_=>False
def ldE(t:TypeId)(r:List IV)(K:IV->Prop):Prop:=match gA E.P t with
 |some (true,n+1)=>match Nat.beq (uC E.P 8 t).length (n+1)with
  |true=>S.ldG (n+1) r 0 fun xs=>c0J S (uC E.P 8 t) xs 0 fun vs=>K (.agg vs)
  |false=>ldC S (a9Z E.P t) r 0 K
 |_=>ldC S (a9Z E.P t) r 0 K
def e5H:Nat->List CK
 |0=>[]
 |n+1=> .any::e5H n
def ldW(d:Option Tmp)(t:TypeId)(cs:List IV)(g:Nat)(K:IV->Prop):Prop:=match d with
 |some s=>match E.ld f s with
  |true=>match gA E.P t with
   |some (false,_)=>S.ldA cs g K
   |some (true,n+1)=>c0J S (e5H (n+1)) cs g fun vs=>K (.agg vs)
   |_=>False
  |false=>match E.ln f s with
   |0=>ldK S E t cs g K
   |1=>match gA E.P t,a9Z E.P t with
    |some (false,_),.slc sz=>S.ldNV sz cs g (K .nilslice) fun id e len c=>K (.vslice (some id) e len sz c)
    |_,_=>False
   |3=>match gA E.P t with
    |some (false,_)=>S.ldM cs g fun id=>K (.map id)
    |_=>False
   |4=>match gA E.P t with
    |some (false,_)=>S.ldP cs g fun id o=>K (.ptr id o)
    |_=>False
   |5=>match gA E.P t,a9Z E.P t with
    |some (false,_),.slc sz=>S.ldNH sz cs g False fun id o len=>K (.hslice id o len sz)
    |_,_=>False
   |6=>match gA E.P t with
    |some (false,_)=>S.ldNM cs g (K .nilmap) fun id=>K (.map id)
    |_=>False
   |_=>match gA E.P t,a9Z E.P t with
    |some (false,_),.slc sz=>S.ldNH sz cs g (K .nilslice) fun id o len=>K (.hslice id o len sz)
    |_,_=>False
 |none=>ldK S E t cs g K
def stK(t:TypeId)(cs:List IV)(g:Nat)(v:IV)(K:List IV->Prop):Prop:=match gB E.P t,pP v with
 |some n,true=>match Nat.beq (cellsOf v).length n with
  |true=>S.need (Nat.ble (g+n) cs.length) (K (cs.take g++cellsOf v++cs.drop (g+n)))
  |false=>False
 |_,_=>False
def tH(P:Program):List Field->List IV->List IV->Option Bool
 | [],_,_=>some true
 |f::fs,xs,ys=>
  if f.name == "_" then none else
  match P.underlying f.type,xs[f.offset]?,ys[f.offset]? with
  |some d,some x,some y=>match dO d x y,tH P fs xs ys with
   |some b,some c=>some (b&&c)
   |_,_=>none
  |_,_,_=>none
def c5Q(t:TypeId)(xs g:List IV):Option Bool:=match E.P.underlying t with
 |some (.struct fs)=>match E.P.stoodInHeld t||E.P.eqGuardType E.P.depth t with
  |true=>none
  |false=>tH E.P fs.toList xs g
 |_=>none
def f1T(op:BinOp)(c:Bool)(t:TypeId)(a b:IV)(K:IV->Prop):Prop:=match a,b with
 | .int k x,.int k' y=>match op with
  | .quo=>if k=k' then S.need (!(y==0)) (K (.int k (k.wrap (x.tdiv y))))else False
  | .rem=>if k=k' then S.need (!(y==0)) (K (.int k (x.tmod y)))else False
  | .shl=>S.need (decide (0<=y)) (K (.int k (k.wrap (x*2^ (min y.toNat k.bits)))))
  | .shr=>S.need (decide (0<=y)) (K (.int k (x.fdiv (2^ (min y.toNat k.bits)))))
  |op=>match(if k=k' then rE op k x y else none)with
   |some v=>K v
   |none=>False
 | .str x,.str y=>match op with
  | .add=>S.need (Nat.ble (x.length+y.length) 9223372036854775807) (K (.str (x++y)))
  |op=>match a2C op x y with
   |some v=>K v
   |none=>False
 | .agg xs,.agg ys=>match op with
  | .eql=>match c5Q E t xs ys with
   |some b=>K (.bool b)
   |none=>False
  | .neq=>match c5Q E t xs ys with
   |some b=>K (.bool (!b))
   |none=>False
  |_=>False
 |x,y=>match nL E.P op c t x y with
  |some v=>K v
  |none=>False
def d0K(len:Nat)(i g:Option (Option TV))(K:Int->Int->Prop):Prop:=
 match(match i with|none=>some (0:Int)|some x=>asI x),(match g with|none=>some (len:Int)|some x=>asI x)with
 |some l,some h=>S.need (decide (0<=l) && (decide (l<=h) &&decide (h<=len))) (K l h)
 |_,_=>False
def g0L:FuncId->List IV->Heap->Option (IV×Heap):=fun _ _ _=>none
def a2O(draw:Bool)(o:Oper)(F:GF)(h:Heap)(K:GF->Ef->Prop):Prop:=match dX E f g0L draw o (bC E F.tmg) F.lvg h with
 |some e=>K F e
 |none=>False
def b4Q(c:Operand)(F:GF)(x:Bool):GF:=match c with
 | .tmp t=>F.put (some t) (some (.v (.bool x)))
 |_=>F
def d3X(h:Heap)(sz:Nat)(x:IV)(K:Nat->List IV->Prop):Prop:=match x with
 | .nilslice=>K 0 []
 | .vslice _ _ len z cs=>match Nat.beq z sz with
  |true=>K len cs
  |false=>False
 | .hslice id off len z=>match Nat.beq z sz with
  |true=>S.hget h id fun cs=>S.need (Nat.ble (off+len*sz) cs.length) (K len ((cs.drop off).take (len*sz)))
  |false=>False
 | .str s=>match Nat.beq sz 1 with
  |true=>K s.length (s.map fun b=> .int .u8 b.toNat)
  |false=>False
 |_=>False
def f1U(h:Heap)(i sz g:Nat)(s x:IV)(K:IV->Heap->Prop):Prop:=d3X S h sz x fun n xs=>
 S.br (Nat.beq n 0)
  (match s with
   | .nilslice=>K .nilslice h
   | .vslice id e len z cs=>match Nat.beq z sz with
    |true=>K (.vslice id e len z cs) h
    |false=>False
   | .hslice id off len z=>match Nat.beq z sz with
    |true=>K (.hslice id off len z) h
    |false=>False
   |_=>False)
  (match s with
   | .nilslice=>S.need (Nat.ble (n*g) 140737488355328) (K (newRow h i n sz xs).1 (newRow h i n sz xs).2)
   | .vslice none 1 len z cs=>match Nat.beq z sz with
    |true=>S.need (Nat.ble ((len+n)*g) 140737488355328) (K (newRow h i (len+n) sz (cs++xs)).1 (newRow h i (len+n) sz (cs++xs)).2)
    |false=>False
   | .vslice (some id) e len z cs=>match Nat.beq z sz with
    |true=>S.tip h id fun m=>S.need (Nat.beq m e&&Nat.ble ((len+n)*g) 140737488355328) (K (.vslice (some id) (e+n*sz) (len+n) sz (cs++xs)) (h.set id (.tip (e+n*sz))))
    |false=>False
   | .hslice id off len z=>match Nat.beq z sz with
    |true=>S.hget h id fun cs=>S.need (Nat.beq off 0&& (Nat.ble (len*sz) cs.length&&Nat.ble ((len+n)*g) 140737488355328)) (K (.hslice h.next 0 (len+n) sz) ((h.set id .dead).push (.cells (cs.take (len*sz)++xs))))
    |false=>False
   |_=>False)
def d3Y(h:Heap)(i sz g:Nat)(s x:IV)(K:IV->Heap->Prop):Prop:=match Nat.beq i 0 with
 |true=>d3X S h sz x fun n xs=>match n with
  |0=>False
  |n+1=>S.app h sz g s (n+1) xs fun id e len cs h2=>K (.vslice (some id) e len sz cs) h2
 |false=>False
def a2P(g:FuncId)(xs:List IV):List IV:=match E.iso g with
 |true=>match E.P.funcs[g]? with
  |some fn=>hY E.P fn.params.toList xs
  |none=>xs
 |false=>match E.nr g with
  |true=>match E.P.funcs[g]? with
   |some fn=>hY E.P fn.params.toList xs
   |none=>xs
  |false=>xs
def opW(draw:Bool)(o:Oper)(F:GF)(h:Heap)(K:GF->Ef->Prop):Prop:=match o.op with
 | .move x=>match i0O E f o with
  |true=>match bM (bC E F.tmg x)with
   |some (.hslice id off len sz)=>S.hget h id fun cs=>S.need (Nat.ble 1 sz&&Nat.ble (off+len*sz) cs.length) (K F ⟨.e,some (.v (.vslice none 0 len sz ((cs.drop off).take (len*sz)))),none,false,h.set id .dead⟩)
   |_=>False
  |false=>match bC E F.tmg x with
   |some v=>K F ⟨.p,some v,none,false,h⟩
   |none=>False
 | .pick c a b=>match bC E F.tmg c with
  |some (.v (.bool x))=>S.br x
   (match bC E F.tmg a with|some v=>K (b4Q c F true) ⟨.p,some v,none,false,h⟩|none=>False)
   (match bC E F.tmg b with|some v=>K (b4Q c F false) ⟨.p,some v,none,false,h⟩|none=>False)
  |_=>False
 | .binOp op t x y _=>match bM (bC E F.tmg x),bM (bC E F.tmg y)with
  |some a,some b=>f1T S E op (kL x||kL y) t a b fun v=>K F ⟨.p,some (.v v),none,false,h⟩
  |_,_=>False
 | .load t a=>match bC E F.tmg a with
  |some (.l s off)=>match F.lvg s with
   |some cs=>ldW S E f o.dst t cs off fun v=>K F ⟨.l,some (.v v),none,false,h⟩
   |none=>False
  |some (.v (.vref cs off))=>ldW S E f o.dst t cs off fun v=>K F ⟨.p,some (.v v),none,false,h⟩
  |some (.v (.ptr id off))=>S.hget h id fun cs=>ldW S E f o.dst t cs off fun v=>K F ⟨.r,some (.v v),none,false,h⟩
  |_=>False
 | .store t a x=>match bC E F.tmg a,bM (bC E F.tmg x)with
  |some (.l s off),some v=>match F.lvg s with
   |some cs=>stK S E t cs off v fun cs'=>K F ⟨.s,none,some (s,cs'),false,h⟩
   |none=>False
  |some (.v (.ptr id off)),some v=>S.hget h id fun cs=>stK S E t cs off v fun cs'=>K F ⟨.e,none,none,false,h.set id (.cells cs')⟩
  |_,_=>False
 | .indexAddr t x ix=>match asI (bC E F.tmg ix),E.P.underlying t with
  |some i,some (.array n e)=>match gB E.P e,bC E F.tmg x with
   |some sz,some a=>S.need (decide (0<=i) &&decide (i<n)) (match mJ (i.toNat*sz) a with|some v=>K F ⟨.p,some v,none,false,h⟩|none=>False)
   |_,_=>False
  |some i,some (.slice e)=>match gB E.P e,bM (bC E F.tmg x)with
   |some sz,some (.vslice _ _ len z cs)=>match Nat.beq z sz with
    |true=>S.need (decide (0<=i) &&decide (i<len)) (K F ⟨.p,some (.v (.vref cs (i.toNat*sz))),none,false,h⟩)
    |false=>False
   |some sz,some (.hslice id off len z)=>match Nat.beq z sz with
    |true=>S.need (decide (0<=i) &&decide (i<len)) (K F ⟨.p,some (.v (.ptr id (off+i.toNat*sz))),none,false,h⟩)
    |false=>False
   |_,_=>False
  |_,_=>False
 | .index t x ix=>match asI (bC E F.tmg ix),E.P.underlying t,bM (bC E F.tmg x)with
  |some i,some (.array n e),some (.agg cs)=>match gB E.P e with
   |some sz=>S.need (decide (0<=i) &&decide (i<n)) (ldK S E e cs (i.toNat*sz) fun v=>K F ⟨.p,some (.v v),none,false,h⟩)
   |none=>False
  |some i,some .string,some (.str s)=>S.need (decide (0<=i)) (S.chr s i.toNat fun b=>K F ⟨.p,some (.v (.int .u8 b)),none,false,h⟩)
  |_,_,_=>False
 | .slice t x lo hi mx=>match mx,E.P.underlying t,bM (bC E F.tmg x)with
  |none,some .string,some (.str s)=>d0K S s.length (lo.map (bC E F.tmg)) (hi.map (bC E F.tmg)) fun l h'=>K F ⟨.p,some (.v (.str ((s.drop l.toNat).take (h'.toNat-l.toNat)))),none,false,h⟩
  |none,some (.slice e),some (.vslice id en len z cs)=>match gB E.P e with
   |some sz=>match Nat.beq z sz with
    |true=>d0K S len (lo.map (bC E F.tmg)) (hi.map (bC E F.tmg)) fun l h'=>
     K F ⟨.p,some (.v (.vslice id (en- (len-h'.toNat)*sz) (h'.toNat-l.toNat) sz ((cs.drop (l.toNat*sz)).take ((h'.toNat-l.toNat)*sz)))),none,false,h⟩
    |false=>False
   |none=>False
  |none,some (.slice e),some (.hslice id off len z)=>match gB E.P e with
   |some sz=>match Nat.beq z sz with
    |true=>d0K S len (lo.map (bC E F.tmg)) (hi.map (bC E F.tmg)) fun l h'=>K F ⟨.p,some (.v (.hslice id (off+l.toNat*sz) (h'.toNat-l.toNat) sz)),none,false,h⟩
    |false=>False
   |none=>False
  |none,some (.array n e),some (.ptr id off)=>match gB E.P e with
   |some (sz+1)=>S.hget h id fun cs=>S.need (Nat.ble (off+n*(sz+1)) cs.length) (d0K S n (lo.map (bC E F.tmg)) (hi.map (bC E F.tmg)) fun l h'=>
    K F ⟨.r,some (.v (.hslice id (off+l.toNat*(sz+1)) (h'.toNat-l.toNat) (sz+1))),none,false,h⟩)
   |_=>False
  |_,_,_=>a2O E f draw o F h K
 | .makeSlice t l c=>match E.P.underlying t,o.dst,asI (bC E F.tmg l),asI (bC E F.tmg c)with
  |some (.slice e),some d,some l,some c=>match gB E.P e,iH E.P e,cV E.P e with
   |some (sz+1),some bytes,some z=>match Nat.beq (cellsOf z).length (sz+1)with
    |true=>S.need (decide (0<=l) && (decide (l<=c) && (decide (c<=9223372036854775807) &&decide (bytes*c<=140737488355328))))
     (K F ⟨.e,some (.v (newRow h (1-E.A f d) l.toNat (sz+1) (fF l.toNat (cellsOf z))).1),none,false,(newRow h (1-E.A f d) l.toNat (sz+1) (fF l.toNat (cellsOf z))).2⟩)
    |false=>False
   |_,_,_=>False
  |_,_,_,_=>False
 | .call {callee:= .builtin .append,args,argTypes } =>match argTypes.toList,args.toList with
  | [t,u],[sx,xx]=>match bM (bC E F.tmg sx),bM (bC E F.tmg xx),E.P.underlying t,E.P.underlying u,o.dst with
   |some s,some x,some (.slice e),some du,some d=>match gB E.P e,iH E.P e,cV E.P e with
    |some (sz+1),some (bytes+1),some z=>match Nat.beq (cellsOf z).length (sz+1) &&lX du with
     |true=>match Nat.beq (E.ln f d) 9 with
      |true=>d3Y S h (E.A f d) (sz+1) (bytes+1) s x fun v h'=>K F ⟨.e,some (.v v),none,false,h'⟩
      |false=>f1U S h (E.A f d) (sz+1) (bytes+1) s x fun v h'=>K F ⟨.e,some (.v v),none,false,h'⟩
     |false=>False
    |_,_,_=>False
   |_,_,_,_,_=>False
  |_,_=>False
 | .call {callee:= .builtin .copy,args,argTypes } =>match argTypes.toList,args.toList with
  |t::_,[sx,xx]=>match bM (bC E F.tmg sx),bM (bC E F.tmg xx),E.P.underlying t with
   |some (.hslice id off len z),some x,some (.slice e)=>match gB E.P e with
    |some (sz+1)=>match Nat.beq z (sz+1)with
     |true=>d3X S h (sz+1) x fun n xs=>S.hget h id fun cs=>S.need (Nat.ble (off+len*z) cs.length)
      (K F ⟨.e,some (.v (.int .i64 ((min n len:Nat):Int))),none,false,h.set id (.cells (spl cs off (xs.take (min n len*(sz+1)))))⟩)
     |false=>False
    |_=>False
   |_,_,_=>False
  |_,_=>False
 | .call {callee:= .value x,args,.. } =>match bC E F.tmg x,oA (args.toList.map (bC E F.tmg))with
  |some (.v (.func (.func g) a b)),some xs=>S.call g (a2P E g (a++xs++b)) h fun v h'=>K F ⟨pS (E.iso g),some (.v v),none,false,h'⟩
  |_,_=>False
 | .lookup t x k ok=>match E.P.underlying t,bM (bC E F.tmg x),bM (bC E F.tmg k)with
  |some (.map kt et),some (.map id),some key=>match E.P.underlying kt,cV E.P et with
   |some d,some z=>match nM d key with
    |true=>S.mlook h id d key (fun r=>ldE S E et r fun v=>K F ⟨.r,some (.v (match ok with|true=> .tuple [v,.bool true]|false=>v)),none,false,h⟩)
     (K F ⟨.r,some (.v (match ok with|true=> .tuple [z,.bool false]|false=>z)),none,false,h⟩)
    |false=>False
   |_,_=>False
  |_,_,_=>a2O E f draw o F h K
 | .mapUpdate t m k x=>match E.P.underlying t,bM (bC E F.tmg m),bM (bC E F.tmg k),bM (bC E F.tmg x)with
  |some (.map kt _),some (.map id),some key,some v=>match E.P.underlying kt with
   |some d=>match nM d key with
    |true=>S.mupd h id d key v fun j=>K F ⟨.e,none,none,false,h.set id (.map j)⟩
    |false=>False
   |_=>False
  |_,_,_,_=>False
 | .mapEntry t m k=>match E.P.underlying t,bM (bC E F.tmg m),bM (bC E F.tmg k)with
  |some (.map kt et),some (.map id),some key=>match E.P.underlying kt,cV E.P et with
   |some d,some z=>match nM d key with
    |true=>S.ent h id d key z fun v n j=>K F ⟨.e,some (.v (.tuple [v,.int .i64 n])),none,false,h.set id (.map j)⟩
    |false=>False
   |_,_=>False
  |_,_,_=>False
 | .entryStore _ m s x=>match bM (bC E F.tmg m),bM (bC E F.tmg s),bM (bC E F.tmg x)with
  |some (.map id),some (.int _ n),some v=>S.mput h id n v fun j=>K F ⟨.e,none,none,false,h.set id (.map j)⟩
  |_,_,_=>False
 | .convert s d x=>match E.P.underlying s,E.P.underlying d,bM (bC E F.tmg x)with
  |some (.slice e),some .string,some (.vslice _ _ _ 1 cs)=>match E.P.underlying e with
   |some (.int .u8)=>S.byt cs fun b=>K F ⟨.p,some (.v (.str b)),none,false,h⟩
   |_=>False
  |_,_,_=>a2O E f draw o F h K
 |_=>a2O E f draw o F h K
def opA(n:Nat)(o:Oper)(F:GF)(h:Heap)(K:GF->Ef->Prop):Prop:=match o.op with
 | .makeSlice t l c=>match E.P.underlying t,o.dst,asI (bC E F.tmg l),asI (bC E F.tmg c)with
  |some (.slice e),some d,some l,some c=>match gB E.P e,iH E.P e,cV E.P e with
   |some (sz+1),some bytes,some z=>match Nat.beq (cellsOf z).length (sz+1)with
    |true=>S.need (decide (0<=l) && (decide (l<=c) && (decide (c<=9223372036854775807) &&decide (bytes*c<=140737488355328))))
     (match Nat.beq (1-E.A f d) 0 with
      |true=>S.need (Nat.ble 1 l.toNat) (S.fre h n (K F ⟨.a,some (.v (uM n (1-E.A f d) l.toNat (sz+1) (fF l.toNat (cellsOf z)))),none,false,h.set n (pR (1-E.A f d) l.toNat (sz+1) (fF l.toNat (cellsOf z)))⟩))
      |false=>S.fre h n (K F ⟨.a,some (.v (uM n (1-E.A f d) l.toNat (sz+1) (fF l.toNat (cellsOf z)))),none,false,h.set n (pR (1-E.A f d) l.toNat (sz+1) (fF l.toNat (cellsOf z)))⟩))
    |false=>False
   |_,_,_=>False
  |_,_,_,_=>False
 | .call {callee:= .builtin .append,args,argTypes } =>match argTypes.toList,args.toList with
  | [t,u],[sx,xx]=>match bM (bC E F.tmg sx),bM (bC E F.tmg xx),E.P.underlying t,E.P.underlying u,o.dst with
   |some .nilslice,some x,some (.slice e),some du,some d=>match gB E.P e,iH E.P e,cV E.P e with
    |some (sz+1),some (bytes+1),some z=>match Nat.beq (cellsOf z).length (sz+1) &&lX du with
     |true=>match e4H (sz+1) x with
      |some (k,xs)=>S.br (Nat.beq k 0) (K F ⟨.p,some (.v .nilslice),none,false,h⟩)
       (S.need (Nat.ble (k*(bytes+1)) 140737488355328) (S.fre h n (K F ⟨.a,some (.v (uM n (E.A f d) k (sz+1) xs)),none,false,h.set n (pR (E.A f d) k (sz+1) xs)⟩)))
      |none=>False
     |false=>False
    |_,_,_=>False
   |_,_,_,_,_=>False
  |_,_=>False
 |_=>match aSh E f o (bC E F.tmg) n with
  |some (v,none)=>K F ⟨.p,v,none,false,h⟩
  |some (v,some x)=>S.fre h n (K F ⟨.a,v,none,false,h.set n x⟩)
  |none=>False
def c0K(ops:List Oper)(o:Oper)(F:GF)(g skip:GF->Prop):Prop:=match o.guard with
 |none=>g F
 |some (j,b)=>match(ops[j]?).bind (·.dst)with
  |some d=>match F.tmg d with
   |some (.v (.bool x))=>S.br x ((match b with|true=>g|false=>skip) (F.put (some d) (some (.v (.bool true))))) ((match b with|true=>skip|false=>g) (F.put (some d) (some (.v (.bool false)))))
   |some .u=>skip F
   |_=>False
  |none=>False
def b4R(b:Nat)(h:Heap)(A:Prop):Ps->Prop
 | []=>A
 |q::r=>match b.testBit q.1 with
  |true=>b4R b h A r
  |false=>q.2 h/\b4R b h A r
def rdK(rs:Nat->Option Nat)(m:Met)(b:Nat)(id:Option Nat)(A:Prop):List Nat->Prop
 | []=>A
 |j::r=>match b.testBit j||!(m.a.testBit j)with
  |true=>rdK rs m b id A r
  |false=>match rs j,id with
   |some n,some k=>S.need (!(Nat.beq n k)) (rdK rs m b id A r)
   |_,_=>rdK rs m b id A r
def g0M(g:List Nat)(rs:Nat->Option Nat)(m:Met)(b:Nat)(id:Option Nat)(c:Cls)(A:Prop):Prop:=match c with
 | .r=>rdK S rs m b id A g
 |_=>A
def f1V(g:List Nat)(rs:Nat->Option Nat)(draw:Bool)(m:Met)(ps:Ps)(b:Nat)(id:Option Nat)(e:Ef)(A:Prop):Prop:=match draw with
 |false=>A
 |true=>match jE (m.chk e.c) b with
  |true=>g0M S g rs m b id e.c A
  |false=>match e.c with
   | .e=>match jE (m.e|||m.a) b with
    |true=>b4R b e.h A ps
    |false=>False
   |_=>False
def d0L(ops:List Oper)(draw:Bool)(bef:Nat->Nat)(g:List Nat)(rs:Nat->Option Nat):List (Oper×Nat)->Met->Ps->GF->Heap->(GF->Heap->Prop)->Prop
 | [],_,_,F,h,K=>K F h
 | (o,i)::r,m,ps,F,h,K=>c0K S ops o F
  (fun j=>(match rs i with
   |none=>opW S E f draw o j h
   |some n=>opA S E f n o j h) fun l e=>f1V S g rs draw m ps (bef i) (jO o (bC E j.tmg)) e (d0L ops draw bef g rs r (m.add e.c i) (a7Z E o (bC E F.tmg) e i ps) (l.app o.dst e) e.h K))
  (fun F=>d0L ops draw bef g rs r m ps (F.put o.dst (some .u)) h K)
def eH:Code->Nat
 | .region id _ _=>id+1
 | .seq a b=>match eH a with
  |0=>eH b
  |n=>n
 | .cond _ a b=>match eH a with
  |0=>eH b
  |n=>n
 | .block _ c=>eH c
 | .loop c=>eH c
 | .scope c=>eH c
 |_=>0
def dUn(g:GF->Heap->(Ex->GF->Heap->Prop)->Prop):Nat->GF->Heap->(Ex->GF->Heap->Prop)->Prop
 |0,_,_,_=>False
 |n+1,F,h,K=>g F h fun x F h=>match x with
  | .normal=>dUn g n F h K
  |x=>K x F h
variable (U:Nat->Nat) (IL IC:Nat->Option Inv')
def dC:Code->GF->Heap->(Ex->GF->Heap->Prop)->Prop
 | .skip,F,h,K=>K .normal F h
 | .region id ops draw,F,h,K=>match E.an f id with
  | []=>d0L S E f ops.toList draw (a2D ops) [] (fun _=>none) (yM (E.od f id) draw ops.toList) {} [] (F.start E f ops.toList draw) h fun F h=>K .normal F h
  |j::r=>d0L S E f ops.toList draw (a2D ops) (j::r) (b9R h.next (j::r)) (yM (E.od f id) draw ops.toList) {} [] (F.start E f ops.toList draw) (h.reserve (r.length+1)) fun F h=>K .normal F h
 | .seq a b,F,h,K=>match IC (eH b)with
  |none=>match IC (Nat.add (eH b) 1000000)with
   |none=>dC a F h fun x F h=>match x with
    | .normal=>dC b F h K
    |x=>K x F h
   |some v=> ∃M:Nat,(dC a F h fun x F h=>match x with
    | .normal=>v.J F h fun m=>m<=M
    |x=>K x F h)/\v.I fun G h m=>m<=M->dC b G h K
  |some v=>(dC a F h fun x F h=>match x with
   | .normal=>v.J F h fun _=>True
   |x=>K x F h)/\v.I fun G h _=>dC b G h K
 | .cond c a b,F,h,K=>match bC E F.tmg c with
  |some (.v (.bool x))=>S.br x (dC a (b4Q c F true) h K) (dC b (b4Q c F false) h K)
  |_=>False
 | .block id c,F,h,K=>dC c F h fun x F h=>match x with
  | .exit id'=>match Nat.beq id' id with
   |true=>K .normal F h
   |false=>K (.exit id') F h
  |x=>K x F h
 | .loop c,F,h,K=>match U (eH c)with
  |n+1=>dUn (dC c) (n+1) F h K
  |0=>match IL (eH c)with
   |some v=>(v.J F h fun _=>True)/\v.I fun G h m=>dC c G h fun x G h=>match x with
    | .normal=>v.J G h fun g=>g<m
    |x=>K x G h
   |none=>match IL (Nat.add (eH c) 1000000)with
    |some v=> ∃M:Nat,(v.J F h fun m=>m<=M)/\v.I fun G h m=>m<=M->dC c G h fun x G h=>match x with
     | .normal=>v.J G h fun g=>g<m
     |x=>K x G h
    |none=>False
 | .exit id,F,h,K=>K (.exit id) F h
 | .scope c,F,h,K=>dC c F h K
 | .ret,F,h,K=>K .ret F h
 |_,_,_,_=>False
def e5I(id:Nat)(K:Ex->GF->Heap->Prop)(x:Ex)(F:GF)(h:Heap):Prop:=match x with
 | .exit id'=>match Nat.beq id' id with
  |true=>K .normal F h
  |false=>K (.exit id') F h
 |x=>K x F h
def c0L:Code->GF->Heap->(Ex->GF->Heap->Prop)->Prop
 | .seq a b,F,h,K=>match IC (eH b)with
  |none=>dC S E f U IL IC a F h fun x F h=>match x with
   | .normal=>c0L b F h K
   |x=>K x F h
  |some v=>dC S E f U IL IC a F h fun x F h=>match x with
   | .normal=>v.J F h fun _=>True
   |x=>K x F h
 | .block id c,F,h,K=>c0L c F h (e5I id K)
 | .scope c,F,h,K=>c0L c F h K
 |c,F,h,K=>dC S E f U IL IC c F h K
def a2Q:Code->(Ex->GF->Heap->Prop)->Prop
 | .seq _ b,K=>match IC (eH b)with
  |none=>a2Q b K
  |some v=>(v.I fun G h _=>c0L S E f U IL IC b G h K)/\a2Q b K
 | .block id c,K=>a2Q c (e5I id K)
 | .scope c,K=>a2Q c K
 |_,_=>True
def d3Z:Nat:=99999999
def f1W(F:GF)(h:Heap)(K:IV->Prop):ResultVar->Prop
 | .tmp t=>match bM (F.tmg t)with
  |some v=>K v
  |none=>False
 | .cell a t=>match F.tmg a with
  |some (.l s off)=>match F.lvg s with
   |some cs=>ldW S E f (some a) t cs off K
   |none=>False
  |some (.v (.ptr id off))=>S.hget h id fun cs=>ldW S E f (some a) t cs off K
  |_=>False
def a2R(F:GF)(h:Heap):List ResultVar->(List IV->Prop)->Prop
 | [],K=>K []
 |r::rs,K=>f1W S E f F h (fun v=>a2R F h rs fun vs=>K (v::vs)) r
def b0M:List IV->Nat->PT (Option TV)->PT (Option TV)
 | [],_,t=>t
 |v::r,i,t=>b0M r (i+1) (t.set i (some (some (.v v))))
def b0N(g:List IV):GF:=⟨b0M g 0 .nil,.nil,FF.none⟩
def c5R(h:Heap)(v:IV)(K:IV->Heap->Prop):Prop:=match v with
 | .hslice id off len sz=>S.hget h id fun cs=>S.need (Nat.ble 1 sz&&Nat.ble (off+len*sz) cs.length) (K (.vslice none 0 len sz ((cs.drop off).take (len*sz))) (h.set id .dead))
 |v=>K v h
def b4S(g:Heap->IV->(IV->Heap->Prop)->Prop):List IV->Heap->(List IV->Heap->Prop)->Prop
 | [],h,K=>K [] h
 |v::r,h,K=>g h v fun l h'=>b4S g r h' fun j i=>K (l::j) i
def d4A(h:Heap)(v:IV)(K:IV->Heap->Prop):Prop:=match v with
 | .agg cs=>b4S (c5R S) cs h fun cs' h'=>K (.agg cs') h'
 |v=>c5R S h v K
def b0O(vs:List IV)(h:Heap)(K:List IV->Prop):Prop:=match E.fz f with
 |true=>b4S (d4A S) vs h fun g _=>K g
 |false=>K vs
def c5S(rs:List ResultVar)(c:Code)(g:List IV)(h:Heap)(K:List IV->Heap->Prop):Prop:=
 match IC d3Z with
 |none=>dC S E f U IL IC c (b0N g) h fun x F h'=>match x with
  | .exit _=>False
  |_=>a2R S E f F h' rs fun vs=>K vs h'
 |some _=>(c0L S E f U IL IC c (b0N g) h fun x F h'=>match x with
  | .exit _=>False
  |_=>a2R S E f F h' rs fun vs=>K vs h')/\a2Q S E f U IL IC c fun x F h'=>match x with
  | .exit _=>False
  |_=>a2R S E f F h' rs fun vs=>K vs h'
def dF(g:List IV)(h:Heap)(Q:IV->Heap->Prop):Prop:=match E.P.funcs[f]? with
 |some fn=>match fn.body with
  |some c=>match E.iso f with
   |false=>c5S S E f U IL IC fn.results.toList c (yN E f fn.params.toList g) h fun vs h'=>match E.fz f with
    |true=>Q (jG E f (eZ (yN E f fn.resultTypes.toList vs)) h').1 (jG E f (eZ (yN E f fn.resultTypes.toList vs)) h').2
    |false=>Q (eZ (yN E f fn.resultTypes.toList vs)) h'
   |true=>S.need (aN (hY E.P fn.params.toList g)) (c5S S E f U IL IC fn.results.toList c (hY E.P fn.params.toList g) Heap.empty fun vs h'=>
    b0O S E f vs h' fun ws=>S.need (aN (hY E.P fn.resultTypes.toList ws)) (Q (eZ (hY E.P fn.resultTypes.toList ws)) h))
  |none=>False
 |none=>False
end
theorem PT.get_mapv{α:Type}(g:α->α): ∀(t:PT α)(k:Nat),(t.mapv g).get k=(t.get k).map g
 | .nil,k=>rfl
 | .node l v r,k=>by
  unfold PT.mapv PT.get
  split
  ·cases v<;>rfl
  ·split
   ·exact PT.get_mapv g l _
   ·exact PT.get_mapv g r _
theorem a2S(F:GF)(d:Option Tmp)(v:Option TV):(F.put d v).ff=F.ff.put d v:=by
 cases d with
 |none=>rfl
 |some t=>
  simp only [GF.put,GF.ff,FF.put]
  congr 1
  funext k;simp only [GF.tmg,PT.get_set]
  by_cases h:k=t<;>simp [h]
theorem d4B(F:GF)(s:Nat):(F.clr s).ff=F.ff.clr s:=by
 simp only [GF.clr,GF.ff,FF.clr]
 congr 1
 funext k;simp only [GF.tmg,PT.get_mapv]
 cases h:F.tm.get k with
 |none=>simp
 |some x=>cases x<;>simp [c5P]
theorem c5T(F:GF)(s:Nat)(cs:List IV):(F.lset s (some cs)).ff=F.ff.lset s cs:=by
 simp only [GF.lset,GF.ff,FF.lset]
 congr 1
 funext k;simp only [GF.lvg,PT.get_set]
 by_cases h:k=s<;>simp [h]
theorem d4C(F:GF)(d:Option Tmp)(e:Ef):(F.app d e).ff=F.ff.app d e:=by
 unfold GF.app FF.app
 cases e.loc with
 |none=>exact a2S _ _ _
 |some q=>
  obtain⟨s,cs⟩:=q
  cases hb:e.box<;>simp only [hb]
  ·simp [c5T,a2S]
  ·simp [c5T,a2S,d4B]
theorem a8A: ∀(l:List Nat)(F:GF),(F.forget l).ff=F.ff.forget l
 | [],_=>rfl
 |s::r,F=>by
  unfold GF.forget FF.forget
  rw [a8A r]
  congr 1
  have h1:=d4B F s;have i:((F.clr s).lset s none).ff.tm=(F.ff.clr s).tm:=by rw [<-h1];rfl
  have g:((F.clr s).lset s none).ff.lv=fun k=>if k=s then none else F.ff.lv k:=by
   funext k;simp only [GF.lset,GF.ff,GF.lvg,PT.get_set,GF.clr]
   by_cases h:k=s<;>simp [h,FF.clr]
  exact FF.ext' (fun k=>congrFun i k) (fun k=>congrFun g k)
theorem b4T{E:Env}{f:FuncId}{ops:List Oper}{draw:Bool}(F:GF):(F.start E f ops draw).ff=F.ff.start E f ops draw:=by
 unfold GF.start FF.start
 cases draw with
 |true=>simpa using a8A _ _
 |false=>simp
section
variable {E:Env} {f:FuncId} {C:FuncId->List IV->Heap->(IV->Heap->Prop)->Prop}
theorem cB{b:Bool}{A:Prop} :(aV C).need b A ↔ b=true/\A:=by cases b<;>simp [aV,aC]
theorem tJ{j:CK}{cs:List IV}{g:Nat}{K:IV->Prop}(h:ldC (aV C) j cs g K): ∃v,cs[g]?=some v/\K v:=by
 cases j with
 |int k=>
  simp only [ldC,aV,aK]at h;split at h
  ·rename_i l n e;split at h
   ·rename_i i;subst i;exact⟨_,e,h⟩
   ·exact h.elim
  ·exact h.elim
 |bool=>
  simp only [ldC,aV,iS]at h;split at h
  ·rename_i e;exact⟨_,e,h⟩
  ·exact h.elim
 |str=>
  simp only [ldC,aV,bZ]at h;split at h
  ·rename_i e;exact⟨_,e,h⟩
  ·exact h.elim
 |slc sz=>
  simp only [ldC,aV,bH]at h;split at h
  ·rename_i e;split at h
   ·rename_i i;subst i;exact⟨_,e,h⟩
   ·exact h.elim
  ·exact h.elim
 |any=>
  simp only [ldC,aV,f1S]at h;split at h
  ·rename_i e;exact⟨_,e,h⟩
  ·exact h.elim
theorem uW: ∀{l:List CK}{cs:List IV}{g:Nat}{K:List IV->Prop},c0J (aV C) l cs g K-> ∃vs,vs.length=l.length/\(∀i,i<l.length->cs[g+i]?=vs[i]?)/\K vs
 | [],cs,g,K,h=>⟨[],rfl,fun i j=>by simp at j,h⟩
 |ck::r,cs,g,K,h=>by
  unfold c0J at h;obtain⟨v,h1,h2⟩:=tJ h;obtain⟨vs,h3,h4,m⟩:=uW h2;refine⟨v::vs,by simp [h3],fun i j=>?_,m⟩
  cases i with
  |zero=>simpa using h1
  |succ i=>
   have:=h4 i (by simpa using j);rw [show g+(i+1)=g+1+i by omega,this];simp
theorem b4U{l:List CK}{n:Nat}{t:TypeId}{cs:List IV}{j:Nat}{K:IV->Prop}(m:gA E.P t=some (true,n+1))(r:l.length=n+1)(h:c0J (aV C) l cs j fun vs=>K (.agg vs)):
  ∃v,fA E.P t cs j=some v/\K v:=by
 obtain⟨vs,h1,h2,h3⟩:=uW h;rw [r]at h1 h2;have g:=h2 n (by omega);rw [h0U (show n<vs.length by omega)]at g;have p:=(h2B.1 g).1;refine⟨.agg vs,?_,h3⟩;unfold fA
 simp only [m];rw [if_pos (by omega)]
 congr 2
 apply h3T;intro i
 by_cases hi:i<n+1
 ·rw [h3L hi,h4N,h2 i hi]
 ·rw [h2E (by simp;omega),h2E (by omega)]
theorem yZ{t:TypeId}{cs:List IV}{g:Nat}{K:IV->Prop}(h:ldK (aV C) E t cs g K): ∃v,fA E.P t cs g=some v/\K v:=by
 unfold ldK at h;split at h
 ·rename_i n i;obtain⟨v,h1,h2⟩:=tJ h;exact⟨v,by unfold fA;simp only [i];exact h1,h2⟩
 ·rename_i n i;split at h
  ·rename_i j;exact b4U i (h1I j) h
  ·exact h.elim
 ·exact h.elim
theorem d0M{t:TypeId}{r:List IV}{K:IV->Prop}(h:ldE (aV C) E t r K): ∃v,r[0]?=some v/\K v:=by
 unfold ldE at h;split at h
 ·rename_i n l;split at h
  ·rename_i g;have g:=h1I g;simp only [aV,a1B]at h;split at h
   ·rename_i xs e;split at h
    ·rename_i j;have j:=h1I j;obtain⟨vs,h1,h2,h3⟩:=uW h;rw [g]at h1 h2;have:vs=xs:=by
      apply h3T;intro i
      by_cases hi:i<n+1
      ·have:=h2 i hi;rw [h1Q]at this;exact this.symm
      ·rw [h2E (by omega),h2E (by omega)]
     subst this;exact⟨_,e,h3⟩
    ·exact h.elim
   ·exact h.elim
  ·exact tJ h
 ·exact tJ h
theorem b4V: ∀n,(e5H n).length=n
 |0=>rfl
 |n+1=>by simp [e5H,b4V n]
theorem oR{f:FuncId}{d:Option Tmp}{t:TypeId}{cs:List IV}{i:Nat}{K:IV->Prop}(h:ldW (aV C) E f d t cs i K): ∃v,fA E.P t cs i=some v/\K v:=by
 unfold ldW at h;split at h
 ·split at h
  ·split at h
   ·rename_i g;simp only [aV,f1S]at h;split at h
    ·rename_i v e;exact⟨v,by simp only [fA,g];exact e,h⟩
    ·exact h.elim
   ·rename_i n g;exact b4U g (b4V _) h
   ·exact h.elim
  ·split at h
   ·exact yZ h
   ·split at h
    ·rename_i sz g l;simp only [aV,cK]at h;split at h
     ·rename_i e;exact⟨_,by simp only [fA,g];exact e,h⟩
     ·rename_i e;split at h
      ·rename_i j;subst j;exact⟨_,by simp only [fA,g];exact e,h⟩
      ·exact h.elim
     ·exact h.elim
    ·exact h.elim
   ·split at h
    ·rename_i g;simp only [aV,qY]at h;split at h
     ·rename_i e;exact⟨_,by simp only [fA,g];exact e,h⟩
     ·exact h.elim
    ·exact h.elim
   ·split at h
    ·rename_i g;simp only [aV,g0I]at h;split at h
     ·rename_i e;exact⟨_,by simp only [fA,g];exact e,h⟩
     ·exact h.elim
    ·exact h.elim
   ·split at h
    ·rename_i sz g l;simp only [aV,cT]at h;split at h
     ·exact h.elim
     ·rename_i e;split at h
      ·rename_i j;subst j;exact⟨_,by simp only [fA,g];exact e,h⟩
      ·exact h.elim
     ·exact h.elim
    ·exact h.elim
   ·split at h
    ·rename_i g;simp only [aV,a2N]at h;split at h
     ·rename_i e;exact⟨_,by simp only [fA,g];exact e,h⟩
     ·rename_i e;exact⟨_,by simp only [fA,g];exact e,h⟩
     ·exact h.elim
    ·exact h.elim
   ·split at h
    ·rename_i sz g l;simp only [aV,cT]at h;split at h
     ·rename_i e;exact⟨_,by simp only [fA,g];exact e,h⟩
     ·rename_i e;split at h
      ·rename_i j;subst j;exact⟨_,by simp only [fA,g];exact e,h⟩
      ·exact h.elim
     ·exact h.elim
    ·exact h.elim
 ·exact yZ h
theorem a8B{t:TypeId}{cs:List IV}{g:Nat}{v:IV}{K:List IV->Prop}(h:stK (aV C) E t cs g v K): ∃cs',a7H E.P t cs g v=some cs'/\K cs':=by
 unfold stK at h;split at h
 ·rename_i n l j;split at h
  ·rename_i i;have i:=h1I i;obtain⟨h1,h2⟩:=cB.1 h;refine⟨_,?_,h2⟩;unfold a7H
   simp only [j,l,if_true];rw [if_pos ⟨i,h2T h1⟩]
  ·exact h.elim
 ·exact h.elim
theorem qU{P:Program} : ∀{g:List Field}{xs i:List IV}{b:Bool},tH P g xs i=some b->mI P g xs i=some b
 | [],_,_,_,h=>h
 |f::g,xs,i,b,h=>by
  unfold tH at h;unfold mI
  split at h
  ·cases h
  ·rename_i l;rw [if_neg l];split at h
   ·rename_i d x y h1 h2 h3;simp only [h1,h2,h3];split at h
    ·rename_i p q m j;simp only [m];simp only [h0V]at h
     cases p with
     |true=>simp only [h2G]at h;subst h;exact qU j
     |false=>simp only [h3Z]at h;subst h;rfl
    ·cases h
   ·cases h
theorem a0N{c:Bool}{t:TypeId}{xs g:List IV}{b:Bool}(h:c5Q E t xs g=some b):c9N E.P c t (.agg xs) (.agg g)=some b:=by
 unfold c5Q at h;unfold c9N
 split at h
 ·rename_i l j;simp only [j];split at h
  ·cases h
  ·rename_i i;rw [if_neg (by simp [i])];exact qU h
 ·cases h
theorem c0M{op:BinOp}{c:Bool}{t:TypeId}{a b:IV}{K:IV->Prop}(h:f1T (aV C) E op c t a b K): ∃v,nL E.P op c t a b=some v/\K v:=by
 unfold f1T at h;split at h
 ·rename_i k x m y;split at h
  ·split at h
   ·rename_i j;obtain⟨h1,h2⟩:=cB.1 h;exact⟨_,by simp [nL,j,rE,show¬y=0 by simpa using h1],h2⟩
   ·exact h.elim
  ·split at h
   ·rename_i j;obtain⟨h1,h2⟩:=cB.1 h;exact⟨_,by simp [nL,j,rE,show¬y=0 by simpa using h1],h2⟩
   ·exact h.elim
  ·obtain⟨h1,h2⟩:=cB.1 h;simp only [decide_eq_true_eq]at h1;exact⟨_,by simp [nL,oJ,show¬y<0 by omega],h2⟩
  ·obtain⟨h1,h2⟩:=cB.1 h;simp only [decide_eq_true_eq]at h1;exact⟨_,by simp [nL,oJ,show¬y<0 by omega],h2⟩
  ·rename_i h1 h2 h3 h4;split at h
   ·rename_i v g;refine⟨v,?_,h⟩;unfold nL
    cases op<;>first|exact g|exact absurd rfl h1|exact absurd rfl h2|exact absurd rfl h3|exact absurd rfl h4
   ·exact h.elim
 ·rename_i x y;split at h
  ·obtain⟨h1,h2⟩:=cB.1 h;simp only [h1S]at h1;refine⟨_,?_,h2⟩;simp only [nL,a2C];rw [if_neg (by omega)]
  ·split at h
   ·rename_i v g;exact⟨v,by simpa [nL]using g,h⟩
   ·exact h.elim
 ·rename_i xs l;split at h
  ·split at h
   ·rename_i b i;exact⟨_,by simp [nL,a0N i],h⟩
   ·exact h.elim
  ·split at h
   ·rename_i b i;exact⟨_,by simp [nL,a0N i],h⟩
   ·exact h.elim
  ·exact h.elim
 ·split at h
  ·rename_i v g;exact⟨v,g,h⟩
  ·exact h.elim
theorem pZ{len:Nat}{i g:Option (Option TV)}{K:Int->Int->Prop}(h:d0K (aV C) len i g K): ∃(l h':Int),gT len i g=some (l.toNat,h'.toNat)/\0<=l/\l<=h'/\h'<=len/\K l h':=by
 unfold d0K at h;unfold gT
 split at h
 ·rename_i l h' h1 h2;obtain⟨h3,h4⟩:=cB.1 h;simp only [h0Y,decide_eq_true_eq]at h3;refine⟨l,h',?_,h3.1,h3.2.1,h3.2.2,h4⟩
  cases i<;>cases g<;>simp only at h1 h2<;>simp [h1,h2]<;>simp_all<;>omega
 ·exact h.elim
theorem e5J(cf:FuncId->List IV->Heap->Option (IV×Heap)):b4M g0L cf:=fun g xs h r e=>by cases e
theorem b4W{draw:Bool}{o:Oper}{F:GF}{h:Heap}{K:GF->Ef->Prop}(n:Nat)(g:a2O E f draw o F h K): ∃e,dX E f (jH E n) draw o (bC E F.tmg) F.lvg h=some e/\K F e:=by
 unfold a2O at g;split at g
 ·rename_i e i;exact⟨e,a7W (e5J _) i,g⟩
 ·exact g.elim
theorem wS{F:GF}{c:Operand}{b:Bool}(h:bC E F.tmg c=some (.v (.bool b))):(b4Q c F b).ff=F.ff:=by
 unfold b4Q
 split
 ·rename_i t;rw [a2S];refine FF.ext' (fun k=>?_) (fun k=>rfl);simp only [FF.put]
  by_cases hk:k=t
  ·subst hk;simpa [GF.ff,bC]using h.symm
  ·simp [hk]
 ·rfl
theorem a8C(g:CK)(v:IV):a2B g (a2B g v)=a2B g v:=by
 cases g<;>cases v<;>rfl
theorem a8D: ∀(l:List CK)(vs:List IV),nY l (nY l vs)=nY l vs
 | [],vs=>rfl
 |ck::r,[]=>rfl
 |ck::r,v::vs=>by simp only [nY,a8C,a8D r vs]
theorem d0N(P:Program)(t:TypeId)(v:IV):nZ P t (nZ P t v)=nZ P t v:=by
 have h: ∀v,(∀cs,v≠ .agg cs)->nZ P t v=a2B (a9Z P t) v:=by
  intro v g;unfold nZ
  split
  ·rename_i cs;exact absurd rfl (g cs)
  ·rfl
 by_cases g: ∃cs,v= .agg cs
 ·obtain⟨cs,rfl⟩:=g;simp only [nZ,a8D]
 ·have i: ∀cs,v≠ .agg cs:=fun cs e=>g ⟨cs,e⟩
  rw [h v i,h _ (fun cs e=>?_),a8C];unfold a2B at e;split at e
  ·cases e
  ·cases e
  ·exact i cs e
theorem uX(P:Program): ∀(ts:List TypeId)(vs:List IV),hY P ts (hY P ts vs)=hY P ts vs
 | [],vs=>rfl
 |t::ts,[]=>rfl
 |t::ts,v::vs=>by simp only [hY,d0N,uX P ts vs]
theorem a2T{g:FuncId}{xs:List IV}{h:Heap}{Q:IV->Heap->Prop}(i:aU E g (a2P E g xs) h Q):aU E g xs h Q:=by
 unfold a2P at i;split at i
 ·rename_i j;split at i
  ·rename_i fn l;obtain⟨n,v,h',h1,h2⟩:=i;refine⟨n,v,h',?_,h2⟩
   cases n with
   |zero=>simp [jH]at h1
   |succ n=>
    rw [iY]at h1⊢;simp only [l,j,uX]at h1⊢;exact h1
  ·exact i
 ·rename_i j;split at i
  ·rename_i m;split at i
   ·rename_i fn l;obtain⟨n,v,h',h1,h2⟩:=i;refine⟨n,v,h',?_,h2⟩
    cases n with
    |zero=>simp [jH]at h1
    |succ n=>
     rw [iY]at h1⊢;simp only [l,j,yN,m,uX]at h1⊢;exact h1
   ·exact i
  ·exact i
theorem uY{h:Heap}{sz:Nat}{x:IV}{K:Nat->List IV->Prop}(g:d3X (aV C) h sz x K): ∃n xs,fO h sz x=some (n,xs)/\K n xs:=by
 unfold d3X at g;unfold fO
 split at g
 ·exact⟨_,_,rfl,g⟩
 ·split at g
  ·rename_i i;exact⟨_,_,by simp only [h1I i,if_true],g⟩
  ·exact g.elim
 ·split at g
  ·rename_i i;simp only [aV,aF]at g;split at g
   ·rename_i cs l;have j:(aV C).need _ _:=g;obtain⟨h1,h2⟩:=cB.1 j;have h1:=h2T h1;exact⟨_,_,by simp only [h1I i,if_true,l,h1],h2⟩
   ·exact g.elim
  ·exact g.elim
 ·split at g
  ·rename_i i;exact⟨_,_,by simp only [h1I i,if_true],g⟩
  ·exact g.elim
 ·exact g.elim
theorem b4X{h:Heap}{j sz i:Nat}{s x:IV}{K:IV->Heap->Prop}(g:d3Y (aV C) h j sz i s x K): ∃v h',kP h j sz i s x=some (v,h')/\K v h':=by
 unfold d3Y at g;split at g
 ·rename_i l;have l:=h1I l;subst l;obtain⟨n,xs,h1,g⟩:=uY g;unfold kP
  simp only [h1]
  cases n with
  |zero=>exact g.elim
  |succ n=>
   rw [if_neg (Nat.succ_ne_zero n)];simp only [aV,qT]at g;split at g
   ·exact⟨_,_,by simp only [g.1,if_true,newRow],g.2⟩
   ·exact⟨_,_,by simp only [g.1,and_self,if_true,newRow],g.2⟩
   ·exact⟨_,_,by simp only [g.1.2.2,g.1.1,g.1.2.1,and_self,if_true],g.1.1▸g.2⟩
   ·exact g.elim
 ·exact g.elim
theorem c0N{h:Heap}{p sz l:Nat}{s x:IV}{K:IV->Heap->Prop}(g:f1U (aV C) h p sz l s x K): ∃v h',kP h p sz l s x=some (v,h')/\K v h':=by
 unfold f1U at g;obtain⟨n,xs,h1,g⟩:=uY g;unfold kP
 simp only [h1]
 by_cases hn:n=0
 ·subst hn;simp only [if_true];have u:Nat.beq 0 0=true:=rfl;simp only [u,aV,aM]at g;split at g
  ·exact⟨_,_,rfl,g⟩
  ·split at g
   ·rename_i j;exact⟨_,_,by simp only [h1I j,if_true],h1I j▸g⟩
   ·exact g.elim
  ·split at g
   ·rename_i j;exact⟨_,_,by simp only [h1I j,if_true],h1I j▸g⟩
   ·exact g.elim
  ·exact g.elim
 ·simp only [hn,if_false];have y:Nat.beq n 0=false:=by
   cases hq:Nat.beq n 0 with
   |false=>rfl
   |true=>exact absurd (h1I hq) hn
  simp only [y,aV,aM]at g;split at g
  ·have i:(aV C).need _ _:=g;obtain⟨h2,h3⟩:=cB.1 i;exact⟨_,_,by simp only [h2T h2,if_true],h3⟩
  ·split at g
   ·rename_i j;have i:(aV C).need _ _:=g;obtain⟨h2,h3⟩:=cB.1 i;exact⟨_,_,by simp only [h1I j,h2T h2,and_self,if_true],h3⟩
   ·exact g.elim
  ·split at g
   ·rename_i j;simp only [dG]at g;split at g
    ·rename_i m r;have i:(aV C).need _ _:=g;obtain⟨h2,h3⟩:=cB.1 i;simp only [h0Y]at h2;exact⟨_,_,by simp only [r,h1I h2.1,h1I j,h2T h2.2,and_self,if_true],h3⟩
    ·exact g.elim
   ·exact g.elim
  ·split at g
   ·rename_i j;simp only [aF]at g;split at g
    ·rename_i cs r;have i:(aV C).need _ _:=g;obtain⟨h2,h3⟩:=cB.1 i;simp only [h0Y]at h2;exact⟨_,_,by simp only [r,h1I h2.1,h1I j,h2T h2.2.1,h2T h2.2.2,and_self,if_true],h3⟩
    ·exact g.elim
   ·exact g.elim
  ·exact g.elim
theorem d0O(hC: ∀g xs h Q,C g xs h Q->aU E g xs h Q){draw:Bool}{o:Oper}{F:GF}{h:Heap}{K:GF->Ef->Prop}(j:opW (aV C) E f draw o F h K):
  ∃n G e,G.ff=F.ff/\dX E f (jH E n) draw o (bC E F.tmg) F.lvg h=some e/\K G e:=by
 have a2:a2O E f draw o F h K-> ∃n G e,G.ff=F.ff/\dX E f (jH E n) draw o (bC E F.tmg) F.lvg h=some e/\K G e:=fun q=>by
  obtain⟨e,h1,h2⟩:=b4W 0 q;exact⟨0,F,e,rfl,h1,h2⟩
 unfold opW at j;split at j
 ·rename_i x p;split at j
  ·rename_i hm;split at j
   ·rename_i id V len sz O;simp only [aV,aF]at j;split at j
    ·rename_i cs hg;have Z:(aV C).need _ _:=j;obtain⟨h1,h2⟩:=cB.1 Z;simp only [h0Y]at h1;have hc:0<sz/\V+len*sz<=cs.length:=⟨h2T h1.1,h2T h1.2⟩;exact⟨0,F,_,rfl,by simp [dX,eN,gD,gZ,dP,gV,p,hm,O,hg,hc],h2⟩
    ·exact j.elim
   ·exact j.elim
  ·rename_i hm;split at j
   ·rename_i v O;exact⟨0,F,_,rfl,by simp [dX,eN,p,hm,O],j⟩
   ·exact j.elim
 ·rename_i c a b p;split at j
  ·rename_i x O
   cases x with
   |true=>
    simp only [aV,aM]at j;split at j
    ·rename_i v hv;exact⟨0,_,_,wS O,by simp [dX,eN,p,O,hv],j⟩
    ·exact j.elim
   |false=>
    simp only [aV,aM]at j;split at j
    ·rename_i v hv;exact⟨0,_,_,wS O,by simp [dX,eN,p,O,hv],j⟩
    ·exact j.elim
  ·exact j.elim
 ·rename_i op t x y u p;split at j
  ·rename_i a b L A;obtain⟨v,h1,h2⟩:=c0M j;exact⟨0,F,_,rfl,by simp [dX,eN,p,L,A,h1],h2⟩
  ·exact j.elim
 ·rename_i t a p;split at j
  ·rename_i s V L;split at j
   ·rename_i cs hl;obtain⟨v,h1,h2⟩:=oR j;exact⟨0,F,_,rfl,by simp [dX,eN,gD,p,L,hl,h1],h2⟩
   ·exact j.elim
  ·rename_i cs V L;obtain⟨v,h1,h2⟩:=oR j;exact⟨0,F,_,rfl,by simp [dX,eN,p,L,h1],h2⟩
  ·rename_i id V L;simp only [aV,aF]at j;split at j
   ·rename_i cs hg;obtain⟨v,h1,h2⟩:=oR (C:=C) j;exact⟨0,F,_,rfl,by simp [dX,eN,gD,gZ,dP,p,L,hg,h1],h2⟩
   ·exact j.elim
  ·exact j.elim
 ·rename_i t a x p;split at j
  ·rename_i s V v L O;split at j
   ·rename_i cs hl;obtain⟨cs',h1,h2⟩:=a8B j;exact⟨0,F,_,rfl,by simp [dX,eN,gD,gZ,p,L,O,hl,h1],h2⟩
   ·exact j.elim
  ·rename_i id V v L O;simp only [aV,aF]at j;split at j
   ·rename_i cs hg;obtain⟨cs',h1,h2⟩:=a8B (C:=C) j;exact⟨0,F,_,rfl,by simp [dX,eN,gD,gZ,dP,gV,p,L,O,hg,h1],h2⟩
   ·exact j.elim
  ·exact j.elim
 ·rename_i t x ix p;split at j
  ·rename_i i n e hi D;split at j
   ·rename_i sz a T L;obtain⟨h1,h2⟩:=cB.1 j;simp only [h0Y,decide_eq_true_eq]at h1;split at h2
    ·rename_i v hv;exact⟨0,F,_,rfl,by simp [dX,eN,p,hi,D,T,L,h1,hv],h2⟩
    ·exact h2.elim
   ·exact j.elim
  ·rename_i i e hi D;split at j
   ·rename_i sz id en len z cs T L;split at j
    ·rename_i A;have A:=h1I A;obtain⟨h1,h2⟩:=cB.1 j;simp only [h0Y,decide_eq_true_eq]at h1;exact⟨0,F,_,rfl,by simp [dX,eN,p,hi,D,T,L,h1,A],h2⟩
    ·exact j.elim
   ·rename_i sz id V len z T L;split at j
    ·rename_i A;have A:=h1I A;obtain⟨h1,h2⟩:=cB.1 j;simp only [h0Y,decide_eq_true_eq]at h1;exact⟨0,F,_,rfl,by simp [dX,eN,p,hi,D,T,L,h1,A],h2⟩
    ·exact j.elim
   ·exact j.elim
  ·exact j.elim
 ·rename_i t x ix p;split at j
  ·rename_i i n e cs hi D L;split at j
   ·rename_i sz T;obtain⟨h1,h2⟩:=cB.1 j;simp only [h0Y,decide_eq_true_eq]at h1;obtain⟨v,h3,h4⟩:=yZ h2;exact⟨0,F,_,rfl,by simp [dX,eN,p,hi,D,T,L,h1,h3],h4⟩
   ·exact j.elim
  ·rename_i i s hi D L;obtain⟨h1,h2⟩:=cB.1 j;simp only [h0Y,decide_eq_true_eq]at h1;simp only [aV,a1A]at h2;split at h2
   ·rename_i b A;exact⟨0,F,_,rfl,by simp [dX,eN,p,hi,D,L,h1,A],h2⟩
   ·exact h2.elim
  ·exact j.elim
 ·rename_i t x lo hi mx p;split at j
  ·rename_i s D L;obtain⟨l,h',h1,h2,h3,h4,h5⟩:=pZ j;exact⟨0,F,_,rfl,by simp [dX,eN,p,pQ,D,L,h1],h5⟩
  ·rename_i e id en len z cs D L;split at j
   ·rename_i sz T;split at j
    ·rename_i A;have A:=h1I A;obtain⟨l,h',h1,h2,h3,h4,h5⟩:=pZ j;exact⟨0,F,_,rfl,by simp [dX,eN,p,pQ,D,L,h1,T,A],h5⟩
    ·exact j.elim
   ·exact j.elim
  ·rename_i e id V len z D L;split at j
   ·rename_i sz T;split at j
    ·rename_i A;have A:=h1I A;obtain⟨l,h',h1,h2,h3,h4,h5⟩:=pZ j;exact⟨0,F,_,rfl,by simp [dX,eN,p,pQ,D,L,h1,T,A],h5⟩
    ·exact j.elim
   ·exact j.elim
  ·rename_i n e id V D L;split at j
   ·rename_i sz T;simp only [aV,aF]at j;split at j
    ·rename_i cs hg;have Z:(aV C).need _ _:=j;obtain⟨h6,Z⟩:=cB.1 Z;obtain⟨l,h',h1,h2,h3,h4,h5⟩:=pZ Z;have h6:=h2T h6;have b1:bC E F.tmg x=some (.v (.ptr id V)):=by
      unfold bM at L;split at L
      ·rename_i q;rw [q];cases L;rfl
      ·cases L
     exact⟨0,F,_,rfl,by simp [dX,eN,gD,gZ,dP,p,pQ,D,b1,bM,hg,h1,T,h6],h5⟩
    ·exact j.elim
   ·exact j.elim
  ·exact a2 j
 ·rename_i t l c p;split at j
  ·rename_i e d li ci D hd hl hc;split at j
   ·rename_i sz a6 z a0 a4 T;split at j
    ·rename_i A;have A:=h1I A;obtain⟨h1,h2⟩:=cB.1 j;simp only [h0Y,decide_eq_true_eq]at h1;exact⟨0,F,_,rfl,by simp [dX,eN,gD,gZ,dP,gV,p,D,hd,hl,hc,a0,a4,T,A,h1],h2⟩
    ·exact j.elim
   ·exact j.elim
  ·exact j.elim
 ·rename_i a5 Y p;split at j
  ·rename_i t u sx xx a1 a3;split at j
   ·rename_i s x e du d hs O D a9 hd;split at j
    ·rename_i sz a6 z a0 a4 T;split at j
     ·rename_i A;simp only [h0Y]at A;have a7:=h1I A.1;split at j
      ·obtain⟨v,h',h1,h2⟩:=b4X j;exact⟨0,F,_,rfl,by simp [dX,eN,gD,gZ,dP,gV,p,a1,a3,hs,O,D,a9,hd,a0,a4,T,a7,A.2,h1],h2⟩
      ·obtain⟨v,h',h1,h2⟩:=c0N j;exact⟨0,F,_,rfl,by simp [dX,eN,gD,gZ,dP,gV,p,a1,a3,hs,O,D,a9,hd,a0,a4,T,a7,A.2,h1],h2⟩
     ·exact j.elim
    ·exact j.elim
   ·exact j.elim
  ·exact j.elim
 ·rename_i a5 Y p;split at j
  ·rename_i t ts sx xx a1 a3;split at j
   ·rename_i id V len z x e hs O D;split at j
    ·rename_i sz T;split at j
     ·rename_i A;have A:=h1I A;subst A;obtain⟨n,xs,h1,j⟩:=uY j;simp only [aV,aF]at j;split at j
      ·rename_i cs hg;have Z:(aV C).need _ _:=j;obtain⟨h6,Z⟩:=cB.1 Z;have h6:=h2T h6;exact⟨0,F,_,rfl,by simp [dX,eN,gD,gZ,dP,gV,p,a1,a3,hs,O,D,T,hg,h1,h6],Z⟩
      ·exact j.elim
     ·exact j.elim
    ·exact j.elim
   ·exact j.elim
  ·exact j.elim
 ·rename_i x a5 Y p;split at j
  ·rename_i g a b xs O b0;obtain⟨n,v,h',h1,h2⟩:=a2T (hC _ _ _ _ j);exact⟨n,F,_,rfl,by simp [dX,eN,gD,gZ,dP,gV,dJ,p,O,b0,<-List.append_assoc,h1],h2⟩
  ·exact j.elim
 ·rename_i t x k ok p;split at j
  ·rename_i kt et id a8 D O X;split at j
   ·rename_i d z hd T;split at j
    ·rename_i hf;simp only [aV,fV]at j;split at j
     ·rename_i es hg;split at j
      ·rename_i v hv;obtain⟨v',h1,h2⟩:=d0M (C:=C) j;have h1:v=v':=by simpa using h1
       subst h1;refine⟨0,F,_,rfl,?_,h2⟩
       cases ok<;>simp [dX,eN,gD,gZ,dP,p,D,O,X,hd,T,hf,hg,hv]
      ·rename_i hv;refine⟨0,F,_,rfl,?_,j⟩
       cases ok<;>simp [dX,eN,gD,gZ,dP,p,D,O,X,hd,T,hf,hg,hv]
      ·exact j.elim
     ·exact j.elim
    ·exact j.elim
   ·exact j.elim
  ·exact a2 j
 ·rename_i t m k x p;split at j
  ·rename_i kt et id a8 v D hm X O;split at j
   ·rename_i d hd;split at j
    ·rename_i hf;simp only [aV,kS]at j;split at j
     ·rename_i es hg;split at j
      ·rename_i es' hv;exact⟨0,F,_,rfl,by simp [dX,eN,gD,gZ,dP,gV,p,D,hm,O,X,hd,hf,hg,hv],j⟩
      ·exact j.elim
     ·exact j.elim
    ·exact j.elim
   ·exact j.elim
  ·exact j.elim
 ·rename_i t m k p;split at j
  ·rename_i kt et id a8 D hm X;split at j
   ·rename_i d z hd T;split at j
    ·rename_i hf;simp only [aV,b4N]at j;split at j
     ·rename_i es hg;split at j
      ·rename_i r hv;exact⟨0,F,_,rfl,by simp [dX,eN,gD,gZ,dP,gV,p,D,hm,X,hd,T,hf,hg,hv],j⟩
      ·exact j.elim
     ·exact j.elim
    ·exact j.elim
   ·exact j.elim
  ·exact j.elim
 ·rename_i t m s x p;split at j
  ·rename_i id kd n v hm hs O;simp only [aV,a0M]at j;split at j
   ·rename_i es hg;exact⟨0,F,_,rfl,by simp [dX,eN,gD,gZ,dP,gV,p,hm,hs,O,hg,j.1],j.2⟩
   ·exact j.elim
  ·exact j.elim
 ·rename_i s d x p;split at j
  ·rename_i e id en len cs D hd O;split at j
   ·rename_i he;simp only [aV,g0H]at j;split at j
    ·rename_i b A;exact⟨0,F,_,rfl,by simp [dX,eN,b0A,p,D,hd,O,he,A],j⟩
    ·exact j.elim
   ·exact j.elim
  ·exact a2 j
 ·exact a2 j
theorem b0P{E:Env}{ops:List Oper}{o:Oper}{F:GF}{m skip:GF->Prop}(g:c0K (aV C) ops o F m skip):
  ∃G,G.ff=F.ff/\((dD ops F.tmg o=some true/\m G) \/ (dD ops F.tmg o=some false/\skip G)):=by
 unfold c0K at g;unfold dD
 split at g
 ·rename_i i;exact⟨F,rfl,.inl ⟨by simp [i],g⟩⟩
 ·rename_i j b i;split at g
  ·rename_i d hd;split at g
   ·rename_i x l;have p:=fun y (hy:x=y)=>wS (E:=E) (F:=F) (c:= .tmp d) (b:=y) (by rw [<-hy];exact l)
    cases x with
    |true=>
     refine⟨_,p true rfl,?_⟩
     cases b with
     |true=>exact .inl ⟨by simp [i,hd,l],g⟩
     |false=>exact .inr ⟨by simp [i,hd,l],g⟩
    |false=>
     refine⟨_,p false rfl,?_⟩
     cases b with
     |true=>exact .inr ⟨by simp [i,hd,l],g⟩
     |false=>exact .inl ⟨by simp [i,hd,l],g⟩
   ·rename_i l;exact⟨F,rfl,.inr ⟨by simp [i,hd,l],g⟩⟩
   ·exact g.elim
  ·exact g.elim
theorem zA{b:Nat}{h:Heap}{A:Prop} : ∀{ps:Ps},b4R b h A ps->c5O ps b h/\A
 | [],hk=>⟨(fun q i=>nomatch i),hk⟩
 |q::r,hk=>by
  unfold b4R at hk;split at hk
  ·rename_i j;obtain⟨h1,h2⟩:=zA hk;refine⟨fun x g=>?_,h2⟩;rcases h2O.1 g with rfl|g
   ·exact .inl j
   ·exact h1 x g
  ·obtain⟨h1,h2⟩:=zA hk.2;refine⟨fun x g=>?_,h2⟩;rcases h2O.1 g with rfl|g
   ·exact .inr hk.1
   ·exact h1 x g
theorem a1W{C:FuncId->List IV->Heap->(IV->Heap->Prop)->Prop}{h:Heap}{n:Nat}{A:Prop}(j:(aV C).fre h n A):h.get n= .free/\A:=by
 have g:yY h n A:=j;unfold yY at g;split at g
 ·rename_i i;exact⟨i,g⟩
 ·exact g.elim
theorem d0P{n:Nat}{o:Oper}{F:GF}{h:Heap}{K:GF->Ef->Prop}(g:opA (aV C) E f n o F h K):
  ∃e,(match aSh E f o (bC E F.tmg) n with
   |some (v,none)=>some ⟨.p,v,none,false,h⟩
   |some (v,some x)=>match h.get n with
    | .free=>some ⟨.a,v,none,false,h.set n x⟩
    |_=>none
   |none=>none)=some e/\K F e:=by
 unfold opA at g;split at g
 ·rename_i t l c r;split at g
  ·rename_i e d li ci X hd hl hc;split at g
   ·rename_i sz O z j m hz;split at g
    ·rename_i y;have y:=h1I y;obtain⟨h1,h2⟩:=cB.1 g;simp only [h0Y,decide_eq_true_eq]at h1;split at h2
     ·rename_i Z;have Z:=h1I Z;obtain⟨h3,h4⟩:=cB.1 h2;have h3:=h2T h3;obtain⟨L,G⟩:=a1W h4;refine⟨_,?_,G⟩;simp only [aSh,r,X,hd,hl,hc,j,m,hz];rw [if_pos ⟨h1.1,h1.2.1,h1.2.2.1,h1.2.2.2,y,fun _=>h3⟩];simp only [L]
     ·rename_i Z;obtain⟨L,G⟩:=a1W h2;refine⟨_,?_,G⟩;simp only [aSh,r,X,hd,hl,hc,j,m,hz];rw [if_pos ⟨h1.1,h1.2.1,h1.2.2.1,h1.2.2.2,y,fun e=>by rw [e]at Z;simp at Z⟩];simp only [L]
    ·exact g.elim
   ·exact g.elim
  ·exact g.elim
 ·rename_i a2 T r;split at g
  ·rename_i t u sx xx Y a0;split at g
   ·rename_i x e du d hs hx X a1 hd;split at g
    ·rename_i sz O z j m hz;split at g
     ·rename_i y;simp only [h0Y]at y;have V:=h1I y.1;split at g
      ·rename_i k xs D;have A:aM (Nat.beq k 0) _ _:=g
       cases i:Nat.beq k 0 with
       |true=>
        rw [i]at A;have i:=h1I i;refine⟨_,?_,A⟩;simp only [aSh,r,Y,a0,hs,hx,X,a1,hd,j,m,hz];rw [if_pos ⟨V,y.2⟩];simp only [D,i,if_true]
       |false=>
        rw [i]at A;obtain⟨h3,h4⟩:=cB.1 A;have h3:=h2T h3;obtain⟨L,G⟩:=a1W h4;refine⟨_,?_,G⟩;simp only [aSh,r,Y,a0,hs,hx,X,a1,hd,j,m,hz];rw [if_pos ⟨V,y.2⟩];simp only [D];rw [if_neg (fun e=>by rw [e]at i;simp at i),if_pos h3];simp only [L]
      ·exact g.elim
     ·exact g.elim
    ·exact g.elim
   ·exact g.elim
  ·exact g.elim
 ·split at g
  ·rename_i v ha;exact⟨_,by simp only [ha],g⟩
  ·rename_i v x ha;obtain⟨L,G⟩:=a1W g;exact⟨_,by simp only [ha,L],G⟩
  ·exact g.elim
theorem wT{C:FuncId->List IV->Heap->(IV->Heap->Prop)->Prop}{rs:Nat->Option Nat}{m:Met}{b:Nat}{id:Option Nat}{A:Prop} : ∀{i:List Nat},rdK (aV C) rs m b id A i->(i.all fun j=>b.testBit j|| (!(m.a.testBit j)|| (match rs j,id with
  |some n,some k=>!(Nat.beq n k)
  |_,_=>true)))=true/\A
 | [],hk=>⟨rfl,hk⟩
 |j::r,hk=>by
  unfold rdK at hk;rw [h5T,h0Y];split at hk
  ·rename_i l;obtain⟨h1,h2⟩:=wT hk;refine⟨⟨?_,h1⟩,h2⟩;rw [<-Bool.or_assoc,l];rfl
  ·have g: ∀{z:Bool},z=true->(b.testBit j|| (!(m.a.testBit j)||z))=true:=fun e=>by rw [e];simp
   cases hrs:rs j with
   |none=>
    rw [hrs]at hk;obtain⟨h1,h2⟩:=wT (id:=id) hk;exact⟨⟨g rfl,h1⟩,h2⟩
   |some n=>
    cases id with
    |none=>
     rw [hrs]at hk;obtain⟨h1,h2⟩:=wT (id:=none) hk;exact⟨⟨g rfl,h1⟩,h2⟩
    |some k=>
     rw [hrs]at hk;obtain⟨h3,h4⟩:=cB.1 hk;obtain⟨h1,h2⟩:=wT h4;exact⟨⟨g h3,h1⟩,h2⟩
theorem b4Y{C:FuncId->List IV->Heap->(IV->Heap->Prop)->Prop}{j:List Nat}{rs:Nat->Option Nat}{draw:Bool}{m:Met}{ps:Ps}{b:Nat}{id:Option Nat}{e:Ef}{A:Prop}(g:f1V (aV C) j rs draw m ps b id e A):(draw=false\/ ((jE (m.chk e.c) b=true\/e.c= .e/\jE (m.e|||m.a) b=true/\c5O ps b e.h)/\b0B j rs m b id e.c=true))/\A:=by
 unfold f1V at g;split at g
 ·exact⟨.inl rfl,g⟩
 ·split at g
  ·rename_i h1;unfold g0M at g;split at g
   ·rename_i i;obtain⟨h3,h4⟩:=wT g;exact⟨.inr ⟨.inl h1,by unfold b0B;rw [i];exact h3⟩,h4⟩
   ·rename_i i;refine⟨.inr ⟨.inl h1,?_⟩,g⟩;unfold b0B
    split
    ·rename_i h2;exact absurd h2 i
    ·rfl
  ·split at g
   ·rename_i i;split at g
    ·rename_i l;obtain⟨h1,h2⟩:=zA g;exact⟨.inr ⟨.inr ⟨i,l,h1⟩,by rw [i];rfl⟩,h2⟩
    ·exact g.elim
   ·exact g.elim
theorem mR(L: ∀g xs h Q,C g xs h Q->aU E g xs h Q){ops:List Oper}{draw:Bool}{bef:Nat->Nat}{T:List Nat}{rs:Nat->Option Nat} : ∀{l:List (Oper×Nat)}{m:Met}{ps:Ps}{F:GF}{h:Heap}{K:GF->Heap->Prop},
  d0L (aV C) E f ops draw bef T rs l m ps F h K->a2M E f ops draw bef T rs l m ps F.ff h fun V h'=> ∃G,G.ff=V/\K G h'
 | [],m,ps,F,h,K,A=>a2M.nil ⟨F,rfl,A⟩
 | (o,i)::r,m,ps,F,h,K,A=>by
  unfold d0L at A;obtain⟨G,D,A⟩:=b0P (E:=E) A;have Y: ∀{o},dD ops F.ff.tm o=dD ops F.tmg o:=rfl
  have O:G.tmg=F.tmg:=congrArg FF.tm D;have X:G.lvg=F.lvg:=congrArg FF.lv D;rcases A with⟨z,j⟩| ⟨z,j⟩
  ·cases hrs:rs i with
   |none=>
    rw [hrs]at j;obtain⟨n,Z,e,h1,h2,h3⟩:=d0O L j;obtain⟨y,h3⟩:=b4Y h3;have h4:=mR L h3;rw [O]at y;refine a2M.cons ⟨n,e,?_,y,?_⟩
    ·rw [O,X]at h2;rw [hrs];simp only [dE,uN];rw [show dD ops F.ff.tm o=some true from z];exact h2
    ·rw [d4C,h1,D]at h4;exact h4
   |some k=>
    rw [hrs]at j;obtain⟨e,h2,h3⟩:=d0P j;obtain⟨y,h3⟩:=b4Y h3;have h4:=mR L h3;rw [O]at y;refine a2M.cons ⟨0,e,?_,y,?_⟩
    ·rw [O]at h2;rw [hrs];simp only [dE];rw [show dD ops F.ff.tm o=some true from z];exact h2
    ·rw [d4C,D]at h4;exact h4
  ·have h4:=mR L j;refine a2M.cons ⟨0,⟨.p,some .u,none,false,h⟩,?_,.inr ⟨.inl (by simp [Met.chk,jE]),rfl⟩,?_⟩
   ·cases rs i<;>simp only [dE,uN]<;>rw [show dD ops F.ff.tm o=some false from z]
   ·rw [a2S,D]at h4;exact h4
theorem a8E{c:Code}{g:GF->Heap->(Ex->GF->Heap->Prop)->Prop}(l: ∀F h K,g F h K->bU E f c F.ff h fun x j h'=> ∃G,G.ff=j/\K x G h'):
  ∀{n:Nat}{F:GF}{h:Heap}{K:Ex->GF->Heap->Prop},dUn g n F h K->bU E f (.loop c) F.ff h fun x j h'=> ∃G,G.ff=j/\K x G h'
 |0,F,h,K,hk=>hk.elim
 |n+1,F,h,K,hk=>by
  unfold dUn at hk;refine bU.loop ((l _ _ _ hk).mono ?_);rintro x j h' ⟨G,rfl,i⟩
  cases x with
  |normal=>exact a8E l i
  |exit id=>exact⟨G,rfl,i⟩
  |ret=>exact⟨G,rfl,i⟩
theorem b4Z: ∀{l:List (Nat×TV)}{F:GF}{A:Prop},uU F l A->A/\∀k x,(b4O l).get k=some x->x=F.tmg k
 | [],F,A,h=>⟨h,fun k x e=>by simp [b4O,PT.get]at e⟩
 | (s,v)::r,F,A,h=>by
  obtain⟨h1,h2⟩:=b4Z h.2;refine⟨h1,fun k x e=>?_⟩;unfold b4O at e;rw [PT.get_set]at e;split at e
  ·rename_i g;subst g;simp only [h0V]at e;subst e;exact h.1.symm
  ·exact h2 k x e
theorem b5A: ∀{l:List (Nat×List IV)}{F:GF}{A:Prop},uV F l A->A/\∀k x,(b4P l).get k=some x->x=F.lvg k
 | [],F,A,h=>⟨h,fun k x e=>by simp [b4P,PT.get]at e⟩
 | (s,v)::r,F,A,h=>by
  obtain⟨h1,h2⟩:=b5A h.2;refine⟨h1,fun k x e=>?_⟩;unfold b4P at e;rw [PT.get_set]at e;split at e
  ·rename_i g;subst g;simp only [h0V]at e;subst e;exact h.1.symm
  ·exact h2 k x e
theorem kT{F:GF}{A B:Prop}(g:A->B): ∀{l:List (Nat×TV)},uU F l A->uU F l B
 | [],h=>g h
 | (s,v)::r,h=>⟨h.1,kT g h.2⟩
theorem kV{F:GF}{A B:Prop}(g:A->B): ∀{l:List (Nat×List IV)},uV F l A->uV F l B
 | [],h=>g h
 | (s,v)::r,h=>⟨h.1,kV g h.2⟩
theorem c5U{v:Inv1}{x:v.X}{F:GF}{h:Heap}{P:Nat->Prop}(p:uU F (v.slots x) (uV F (v.locs x) (h=v.hp x/\v.cond x/\P (v.meas x)))):
  ∃G m,G.ff=F.ff/\P m/\∀K:GF->Heap->Nat->Prop,(∀(x:v.X)(b:FF),v.cond x->K ⟨b4O (v.slots x),b4P (v.locs x),b⟩ (v.hp x) (v.meas x))->K G h m:=by
 obtain⟨h1,h2⟩:=b4Z p;obtain⟨⟨h3,h4,i⟩,j⟩:=b5A h1;refine⟨⟨b4O (v.slots x),b4P (v.locs x),F.ff⟩,v.meas x,FF.ext' (fun k=>?_) (fun k=>?_),i,fun K l=>by rw [h3];exact l x F.ff h4⟩
 ·simp only [GF.ff,GF.tmg];split
  ·rename_i y g;exact h2 k y g
  ·rfl
 ·simp only [GF.ff,GF.lvg];split
  ·rename_i y g;exact j k y g
  ·rfl
theorem qA: ∀{v:Inv'}{F:GF}{h:Heap}{P:Nat->Prop},v.J F h P-> ∃G m,G.ff=F.ff/\P m/\∀K,v.I K->K G h m
 | .one v,F,h,P,g=>by
  unfold Inv'.J at g;split at g
  ·exact c5U g
  ·exact g.elim
 | .ex v,F,h,P,g=>by
  obtain⟨x,j⟩:=g;exact c5U j
 | .or a b,F,h,P,g=>by
  rcases g with g|g
  ·obtain⟨G,m,h1,h2,h3⟩:=qA g;exact⟨G,m,h1,h2,fun K i=>h3 K i.1⟩
  ·obtain⟨G,m,h1,h2,h3⟩:=qA g;exact⟨G,m,h1,h2,fun K i=>h3 K i.2⟩
theorem a2U{P i:Nat->Prop}(g: ∀m,P m->i m): ∀{v:Inv'}{F:GF}{h:Heap},v.J F h P->v.J F h i
 | .one v,F,h,hj=>by
  unfold Inv'.J at hj⊢;split at hj
  ·exact kT (fun q=>kV (fun q=>⟨q.1,q.2.1,g _ q.2.2⟩) q) hj
  ·exact hj
 | .ex v,F,h,hj=>by
  obtain⟨x,j⟩:=hj;exact⟨x,kT (fun q=>kV (fun q=>⟨q.1,q.2.1,g _ q.2.2⟩) q) j⟩
 | .or a b,F,h,hj=>hj.imp (a2U g) (a2U g)
theorem b0Q: ∀{v:Inv'}{F:GF}{h:Heap},(v.J F h fun _=>True)-> ∃m,v.J F h fun k=>k<m
 | .one v,F,h,g=>by
  unfold Inv'.J at g⊢;split at g
  ·rename_i x j;exact⟨v.meas x+1,kT (fun q=>kV (fun q=>⟨q.1,q.2.1,h1G _⟩) q) g⟩
  ·exact g.elim
 | .ex v,F,h,g=>by
  obtain⟨x,j⟩:=g;exact⟨v.meas x+1,x,kT (fun q=>kV (fun q=>⟨q.1,q.2.1,h1G _⟩) q) j⟩
 | .or a b,F,h,g=>by
  rcases g with g|g
  ·obtain⟨m,i⟩:=b0Q g;exact⟨m,.inl i⟩
  ·obtain⟨m,i⟩:=b0Q g;exact⟨m,.inr i⟩
theorem wU(Z: ∀g xs h Q,C g xs h Q->aU E g xs h Q){U:Nat->Nat}{IL IC:Nat->Option Inv'} : ∀{c:Code}{F:GF}{h:Heap}{K:Ex->GF->Heap->Prop},dC (aV C) E f U IL IC c F h K->bU E f c F.ff h fun x y h'=> ∃G,G.ff=y/\K x G h':=by
 intro c
 induction c with
 |skip=>intro F h K l;exact bU.skip ⟨F,rfl,l⟩
 |exit id=>intro F h K l;exact bU.exit ⟨F,rfl,l⟩
 |ret=>intro F h K l;exact bU.ret ⟨F,rfl,l⟩
 |region id ops draw=>
  intro F h K l;unfold dC at l;split at l
  ·rename_i O;have:=mR Z l;rw [b4T]at this;refine bU.region ?_;rw [O];exact this
  ·rename_i j r O;have:=mR Z l;rw [b4T]at this;refine bU.region ?_;rw [O];exact this
 |seq a b iha ihb=>
  intro F h K l;unfold dC at l;split at l
  ·split at l
   ·refine bU.seq ((iha l).mono ?_);rintro x y h' ⟨G,rfl,i⟩
    cases x with
    |normal=>exact ihb i
    |exit id=>exact⟨G,rfl,i⟩
    |ret=>exact⟨G,rfl,i⟩
   ·rename_i v X;obtain⟨M,l⟩:=l;refine bU.seq ((iha l.1).mono ?_);rintro x y h' ⟨G,rfl,i⟩
    cases x with
    |normal=>
     obtain⟨p,m,h1,D,h3⟩:=qA i;have:=ihb (h3 _ l.2 D);rw [h1]at this;exact this
    |exit id=>exact⟨G,rfl,i⟩
    |ret=>exact⟨G,rfl,i⟩
  ·rename_i v X;refine bU.seq ((iha l.1).mono ?_);rintro x y h' ⟨G,rfl,i⟩
   cases x with
   |normal=>
    obtain⟨p,m,h1,_,h3⟩:=qA i;have:=ihb (h3 _ l.2);rw [h1]at this;exact this
   |exit id=>exact⟨G,rfl,i⟩
   |ret=>exact⟨G,rfl,i⟩
 |cond c a b iha ihb=>
  intro F h K l;unfold dC at l;split at l
  ·rename_i x L
   cases x with
   |true=>
    refine bU.cond (b:=true) L (fun _=>?_) (fun e=>by cases e);have:=iha (F:=b4Q c F true) l;rw [wS L]at this;exact this
   |false=>
    refine bU.cond (b:=false) L (fun e=>by cases e) (fun _=>?_);have:=ihb (F:=b4Q c F false) l;rw [wS L]at this;exact this
  ·exact l.elim
 |block id c ih=>
  intro F h K l;refine bU.block ((ih l).mono ?_);rintro x y h' ⟨G,rfl,i⟩
  cases x with
  |normal=>exact⟨G,rfl,i⟩
  |ret=>exact⟨G,rfl,i⟩
  |exit id'=>
   simp only at i⊢;split at i
   ·rename_i Y;rw [if_pos (h1I Y)];exact⟨G,rfl,i⟩
   ·rename_i Y;rw [if_neg (h5F Y)];exact⟨G,rfl,i⟩
 |loop c ih=>
  intro F h K l;unfold dC at l;split at l
  ·rename_i n hu;exact a8E (fun F h K=>ih) l
  ·split at l
   ·rename_i v X;obtain⟨z,T⟩:=l;have A: ∀(n:Nat)(F:GF)(h:Heap),(v.J F h fun m=>m<n)->bU E f (.loop c) F.ff h fun x y h'=> ∃G,G.ff=y/\K x G h':=by
     intro n
     induction n with
     |zero=>intro F h z;obtain⟨G,m,_,D,_⟩:=qA z;omega
     |succ n ihn=>
      intro F h z;obtain⟨G,m,h1,D,h3⟩:=qA z;have:=ih (h3 _ T);rw [<-h1];refine bU.loop (this.mono ?_);rintro x y h' ⟨p,rfl,i⟩
      cases x with
      |normal=>
       refine ihn p h' ?_;have u:v.J p h' fun V=>V<m:=i
       exact a2U (fun k l=>by omega) u
      |exit id=>exact⟨p,rfl,i⟩
      |ret=>exact⟨p,rfl,i⟩
    obtain⟨m,D⟩:=b0Q z;exact A m F h D
   ·split at l
    ·rename_i v X;obtain⟨M,z,T⟩:=l;have A: ∀(n:Nat)(F:GF)(h:Heap),n<=M+1->(v.J F h fun m=>m<n)->bU E f (.loop c) F.ff h fun x y h'=> ∃G,G.ff=y/\K x G h':=by
      intro n
      induction n with
      |zero=>intro F h _ z;obtain⟨G,m,_,D,_⟩:=qA z;omega
      |succ n ihn=>
       intro F h hn z;obtain⟨G,m,h1,D,h3⟩:=qA z;have:=ih (h3 _ T (by omega));rw [<-h1];refine bU.loop (this.mono ?_);rintro x y h' ⟨p,rfl,i⟩
       cases x with
       |normal=>
        refine ihn p h' (by omega) ?_;have u:v.J p h' fun V=>V<m:=i
        exact a2U (fun k l=>by omega) u
       |exit id=>exact⟨p,rfl,i⟩
       |ret=>exact⟨p,rfl,i⟩
     exact A (M+1) F h (h1D _) (a2U (fun k l=>by omega) z)
    ·exact l.elim
 |scope c ih=>intro F h K l;exact bU.scope (ih l)
 |_=>intros;rename_i l;exact l.elim
theorem c0O(r: ∀g xs h Q,C g xs h Q->aU E g xs h Q){U:Nat->Nat}{IL IC:Nat->Option Inv'} : ∀{c:Code}{F:GF}{h:Heap}{K:Ex->GF->Heap->Prop},
  c0L (aV C) E f U IL IC c F h K->a2Q (aV C) E f U IL IC c K->bU E f c F.ff h fun x p h'=> ∃G,G.ff=p/\K x G h':=by
 intro c
 induction c with
 |seq a b iha ihb=>
  intro F h K j l;unfold c0L at j;unfold a2Q at l;split at j
  ·rename_i z;simp only [z]at l;refine bU.seq ((wU r j).mono ?_);rintro x p h' ⟨G,rfl,i⟩
   cases x with
   |normal=>exact ihb i l
   |exit id=>exact⟨G,rfl,i⟩
   |ret=>exact⟨G,rfl,i⟩
  ·rename_i v y;simp only [y]at l;refine bU.seq ((wU r j).mono ?_);rintro x p h' ⟨G,rfl,i⟩
   cases x with
   |normal=>
    obtain⟨A,m,h1,_,h3⟩:=qA i;have:=ihb (h3 _ l.1) l.2;rw [h1]at this;exact this
   |exit id=>exact⟨G,rfl,i⟩
   |ret=>exact⟨G,rfl,i⟩
 |block id c ih=>
  intro F h K j l;refine bU.block ((ih (K:=e5I id K) j l).mono ?_);rintro x p h' ⟨G,rfl,i⟩;unfold e5I at i
  cases x with
  |normal=>exact⟨G,rfl,i⟩
  |ret=>exact⟨G,rfl,i⟩
  |exit id'=>
   simp only at i⊢;split at i
   ·rename_i u;rw [if_pos (h1I u)];exact⟨G,rfl,i⟩
   ·rename_i u;rw [if_neg (h5F u)];exact⟨G,rfl,i⟩
 |scope c ih=>intro F h K j l;exact bU.scope (ih j l)
 |_=>intro F h K j _;exact wU r j
theorem c0P{F:GF}{h:Heap}{K:IV->Prop}{r:ResultVar}(g:f1W (aV C) E f F h K r){i:Fr}(m:i.ff=F.ff): ∃v,wB E.P i h r=some v/\K v:=by
 have y:i.tm.get=F.tmg:=congrArg FF.tm m;have A:i.lv.get=F.lvg:=congrArg FF.lv m;unfold f1W at g;unfold wB
 simp only [y,A];split at g
 ·rename_i t;split at g
  ·rename_i v u;exact⟨v,u,g⟩
  ·exact g.elim
 ·rename_i a t;split at g
  ·rename_i s l j;split at g
   ·rename_i cs z;obtain⟨v,h1,h2⟩:=oR g;exact⟨v,by simp only [j,z];exact h1,h2⟩
   ·exact g.elim
  ·rename_i id l j;simp only [aV,aF]at g;split at g
   ·rename_i cs p;obtain⟨v,h1,h2⟩:=oR (C:=C) g;exact⟨v,by simp only [j,p];exact h1,h2⟩
   ·exact g.elim
  ·exact g.elim
theorem rU{F:GF}{h:Heap}{g:Fr}(i:g.ff=F.ff): ∀{l:List ResultVar}{K:List IV->Prop},a2R (aV C) E f F h l K-> ∃vs,iA E.P g h l=some vs/\K vs
 | [],K,hk=>⟨[],rfl,hk⟩
 |r::rs,K,hk=>by
  unfold a2R at hk;obtain⟨v,h1,h2⟩:=c0P hk i;obtain⟨vs,h3,h4⟩:=rU i h2;exact⟨v::vs,by simp only [iA,h1,h3],h4⟩
theorem a2V: ∀(g:List IV)(i:Nat)(t:PT TV)(u:PT (Option TV)),(∀k,(match u.get k with|some x=>x|none=>none)=t.get k)->
  ∀k,(match(b0M g i u).get k with|some x=>x|none=>none)=(kM g i t).get k
 | [],i,t,u,h,k=>h k
 |v::r,i,t,u,h,k=>by
  unfold b0M kM
  refine a2V r (i+1) _ _ (fun k=>?_) k;simp only [PT.get_set]
  by_cases hk:k=i
  ·simp [hk]
  ·simp only [hk,if_false];exact h k
theorem d0Q(g:List IV):(b0N g).ff=Fr.ff ⟨kM g 0 .nil,.nil⟩:=
 FF.ext' (fun k=>a2V g 0 .nil .nil (fun k=>rfl) k) (fun k=>rfl)
theorem a0O(j: ∀g xs h Q,C g xs h Q->aU E g xs h Q){U:Nat->Nat}{IL IC:Nat->Option Inv'}{rs:List ResultVar}{c:Code}{i:List IV}{h:Heap}{K:List IV->Heap->Prop}
  (hk:c5S (aV C) E f U IL IC rs c i h K): ∃n vs h',iJ E f (jH E n) n rs c i h=some (vs,h')/\K vs h':=by
 unfold c5S at hk;have r:bU E f c (b0N i).ff h fun x p h'=> ∃G,G.ff=p/\(fun(x:Ex)(F:GF)(h':Heap)=>match x with
   | .exit _=>False
   |_=>a2R (aV C) E f F h' rs fun vs=>K vs h') x G h':=by
  split at hk
  ·exact wU j hk
  ·exact c0O j hk.1 hk.2
 have h1:=r ⟨kM i 0 .nil,.nil⟩ (d0Q i).symm;obtain⟨n,x,u,h',m,G,l,h2⟩:=h1
 cases x with
 |exit id=>exact h2.elim
 |normal=>
  obtain⟨vs,h3,h4⟩:=rU l.symm h2;exact⟨n,vs,h',by simp [iJ,m,h3],h4⟩
 |ret=>
  obtain⟨vs,h3,h4⟩:=rU l.symm h2;exact⟨n,vs,h',by simp [iJ,m,h3],h4⟩
theorem a0P{h:Heap}{v:IV}{K:IV->Heap->Prop}(g:c5R (aV C) h v K):K (rH h v).1 (rH h v).2:=by
 unfold c5R at g;split at g
 ·simp only [aV,aF]at g;split at g
  ·rename_i cs j;have i:(aV C).need _ _:=g;obtain⟨h1,h2⟩:=cB.1 i;simp only [h0Y]at h1;have l:=h2T h1.1;have p:=h2T h1.2;simp only [rH,j];rw [if_pos ⟨l,p⟩];exact h2
  ·exact g.elim
 ·rename_i m;have:rH h v=(v,h):=by
   unfold rH
   split
   ·exact absurd rfl (m _ _ _ _)
   ·rfl
  rw [this];exact g
theorem rV{g:Heap->IV->(IV->Heap->Prop)->Prop}{i:Heap->IV->IV×Heap}(j: ∀h v K,g h v K->K (i h v).1 (i h v).2): ∀{vs:List IV}{h:Heap}{K:List IV->Heap->Prop},b4S g vs h K->K (uO i h vs).1 (uO i h vs).2
 | [],h,K,hk=>hk
 |v::r,h,K,hk=>by
  unfold b4S at hk;have:=j _ _ _ hk;exact rV (vs:=r) j this
theorem b5B{h:Heap}{v:IV}{K:IV->Heap->Prop}(g:d4A (aV C) h v K):K (b3O h v).1 (b3O h v).2:=by
 unfold d4A at g;split at g
 ·exact rV (fun _ _ _ q=>a0P q) g
 ·rename_i i;have:b3O h v=rH h v:=by
   unfold b3O
   split
   ·exact absurd rfl (i _)
   ·rfl
  rw [this];exact a0P g
theorem a6S{vs:List IV}{h:Heap}{K:List IV->Prop}(g:b0O (aV C) E f vs h K):K (a2F E f vs h):=by
 unfold b0O at g;unfold a2F
 split at g
 ·rename_i i;rw [if_pos i];exact rV (fun _ _ _ q=>b5B q) g
 ·rename_i i;rw [if_neg (by simp [i])];exact g
theorem d4D(m: ∀g xs h Q,C g xs h Q->aU E g xs h Q){U:Nat->Nat}{IL IC:Nat->Option Inv'}{j:List IV}{h:Heap}{Q:IV->Heap->Prop}
  (i:dF (aV C) E f U IL IC j h Q):aU E f j h Q:=by
 unfold dF at i;split at i
 case h_2=>exact i.elim
 rename_i fn r;split at i
 case h_2=>exact i.elim
 rename_i c p;split at i
 ·rename_i l;obtain⟨n,vs,h',h1,h2⟩:=a0O m i;refine⟨n+1,(jG E f (eZ (yN E f fn.resultTypes.toList vs)) h').1,(jG E f (eZ (yN E f fn.resultTypes.toList vs)) h').2,?_,?_⟩
  ·rw [iY];simp only [r,p,l,h1]
  ·split at h2
   ·exact h2
   ·rename_i u;simpa [jG,u]using h2
 ·rename_i l;obtain⟨y,i⟩:=cB.1 i;obtain⟨n,vs,h',h1,h2⟩:=a0O m i;obtain⟨h3,h4⟩:=cB.1 (a6S h2);refine⟨n+1,_,h,?_,h4⟩;rw [iY];simp only [r,p,l,y,h1,if_true,b0C,h3,h4C]
end
end Go.Pv
namespace Go.Pv
def aT(E:Env)(C:FuncId->List IV->Heap->(IV->Heap->Prop)->Prop):Prop:= ∀g xs h Q,C g xs h Q->aU E g xs h Q
def noC:FuncId->List IV->Heap->(IV->Heap->Prop)->Prop:=fun _ _ _ _=>False
def bB(g:FuncId)(k:List IV->Heap->(IV->Heap->Prop)->Prop)(C:FuncId->List IV->Heap->(IV->Heap->Prop)->Prop):FuncId->List IV->Heap->(IV->Heap->Prop)->Prop:=
 fun i xs h K=>match Nat.beq i g with
  |true=>k xs h K
  |false=>C i xs h K
def dV:Nat->Nat:=fun _=>0
def bT:Nat->Option Inv':=fun _=>none
theorem rW(E:Env):aT E noC:=fun _ _ _ _ h=>h.elim
theorem aI{E:Env}{g:FuncId}{k:List IV->Heap->(IV->Heap->Prop)->Prop}{C:FuncId->List IV->Heap->(IV->Heap->Prop)->Prop}(j: ∀xs h Q,k xs h Q->aU E g xs h Q)(m:aT E C):aT E (bB g k C):=by
 intro l xs h Q i;unfold bB at i;split at i
 ·rename_i e;obtain rfl:=h1I e;exact j xs h Q i
 ·exact m l xs h Q i
theorem aD{b:Bool}{A B:Prop}(g:b=true->A)(i:b=false->B):aM b A B:=by
 cases b with
 |true=>exact g rfl
 |false=>exact i rfl
theorem aA{b:Bool}{A:Prop}(i:b=true)(g:A):aC b A:=by subst i;exact g
theorem cO{Q:IV->Heap->Prop}{v g:IV}{h:Heap}(i:Q v h)(e:v=g):Q g h:=e▸i
theorem g0N{A B:Prop}(e:A=B)(g:B):A:=e▸g
theorem aS{E:Env}{C:FuncId->List IV->Heap->(IV->Heap->Prop)->Prop}(j:aT E C){f:FuncId}{U:Nat->Nat}{IL IC:Nat->Option Inv'}{i:List IV}{h:Heap}{Q:IV->Heap->Prop}{g:Prop}
 (e:dF (aV C) E f U IL IC i h Q=g) (hk:g):aU E f i h Q:=d4D j (g0N e hk)
end Go.Pv
namespace Go.Pv
def atC(g:List (Nat×TV))(i:List (Nat×List IV))(h:Heap):Inv':= .one ⟨Unit,fun _=>g,fun _=>i,fun _=>h,fun _=>True,fun _=>0,fun _ _=>some ()⟩
def tK(n:Nat)(v:Inv'):Nat->Option Inv':=fun k=>match Nat.beq k n with
 |true=>some v
 |false=>none
def icA(n:Nat)(v:Inv')(r:Nat->Option Inv'):Nat->Option Inv':=fun k=>match Nat.beq k n with
 |true=>some v
 |false=>r k
def hJ(X:Type)(g:X->List (Nat×TV))(j:X->List (Nat×List IV))(l:X->Heap)(cond:X->Prop)(i:X->Nat):Inv':= .ex ⟨X,g,j,l,cond,i,fun _ _=>none⟩
theorem gH{k:IntKind}{l:List Int}{i:Nat}{K:Int->Prop}(h:i<l.length)(g:K l[i]):aK k (l.map (IV.int k)) i K:=by
 unfold aK
 rw [h2A,h0U h];simpa using g
def icS(r:Nat->Option Inv'):Nat->Option Inv':=icA d3Z (atC [] [] Heap.empty) r
theorem bY{a b:Nat} :Nat.beq a b=true ↔ a=b:=⟨h1I,fun h=>by subst h;exact h8Z a⟩
theorem zB{a b:Nat} :Nat.beq a b=false ↔ a≠b:=by rw [<-Bool.not_eq_true,bY]
theorem cH{k:IntKind} : ∀{l:List Int},aN (l.map (IV.int k))=true
 | []=>rfl
 |_::r=>by simp only [h2H,aN,bL,h2G];exact cH
theorem bG: ∀{l m:List IV},aN (l++m)=(aN l&&aN m)
 | [],m=>by simp [aN]
 |x::r,m=>by simp only [h3E,aN,bG,Bool.and_assoc]
end Go.Pv
end
end
