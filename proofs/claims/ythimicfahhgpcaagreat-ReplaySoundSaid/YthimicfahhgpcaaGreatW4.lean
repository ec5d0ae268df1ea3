/-
  Texts of this proof, one after the other.
  Conditions: none.
-/
import Derived.Test.YthimicfahhgpcaaGreatW3
set_option linter.unusedVariables false
set_option linter.unusedSimpArgs false
set_option maxRecDepth 100000
set_option maxHeartbeats 4000000
noncomputable section
variable{i j k m n b q:Nat}{x y z u w:Int}{h g:Go.Pv.Heap}{d l:List Go.Pv.IV}{K L:Y12}{p s t:Go.Pv.IV}{D:Go.Pv.Meta}{V W:List Go.Value}{U:Go.TypeId}{o:Bool}{X Y:Go.Value}{r e:Y11}{O:Go.Oper}{N:Y10}{H:Array Go.Value}
section
namespace Go.Pv
section
variable {E:Env} {f:FuncId} {o:Oper} {ev ev':Operand->Option TV} {h:Heap}
theorem xU{l:List Operand}(g: ∀x∈l,ev x=ev' x):l.map ev=l.map ev':=ET g
theorem wG{l:List (Nat×Operand)}(g: ∀x∈l.map (·.2),ev x=ev' x):(l.map fun(i,x)=>(i,ev x))=l.map fun(i,x)=>(i,ev' x):=
 ET fun p j=>by
  obtain⟨i,x⟩:=p;simp only [g x (DR.2 ⟨(i,x),j,rfl⟩)]
theorem yC{x:Option Operand}(g: ∀y,x=some y->ev y=ev' y):x.map ev=x.map ev':=by
 cases x with
 |none=>rfl
 |some y=>simp [g y rfl]
theorem a1C(g: ∀x∈o.op.operands,ev x=ev' x):eH E f o ev=eH E f o ev':=by
 unfold eH
 cases hop:o.op<;>simp only [hop,Op.operands]at g⊢
 case move x=>rw [g x JH]
 case assign x=>rw [g x JH]
 case pick c a b=>rw [g c JH,g a JH,g b JH]
 case box t x=>rw [g x JH]
 case build t ps=>rw [wG (ev:=ev) (ev':=ev') (fun x j=>g x (by simpa using j))]
 case buildSlice t n ps=>rw [wG (ev:=ev) (ev':=ev') (fun x j=>g x (by simpa using j))]
 case load t x=>rw [g x JH]
 case nilCheck x=>rw [g x JH]
 case binOp op t x y u=>rw [g x JH,g y JH]
 case unOp op t x=>rw [g x JH]
 case convert s d x=>rw [g x JH]
 case makeInterface t x=>rw [g x JH]
 case makeFunc fn a b=>rw [xU (ev:=ev) (ev':=ev') (fun x j=>g x (by simp at j⊢;exact .inl j)),xU (ev:=ev) (ev':=ev') (l:=b.toList) (fun x j=>g x (by simp at j⊢;exact .inr j))]
 case slice t x lo hi mx=>
  rw [g x JH,yC (ev:=ev) (ev':=ev') (fun y q=>g y (by subst q;simp)),yC (ev:=ev) (ev':=ev') (x:=hi) (fun y q=>g y (by subst q;simp))]
 case fieldAddr t x i=>rw [g x JH]
 case field t x i=>rw [g x JH]
 case indexAddr t x i=>rw [g x JH,g i JH]
 case index t x i=>rw [g x JH,g i JH]
 case extract x i=>rw [g x JH]
 case typeAssert x s t ok=>rw [g x JH]
 case call c=>
  obtain⟨m,args,p⟩:=c
  cases m with
  |value x=>rfl
  |invoke x n=>rfl
  |builtin b=>
   have r: ∀x∈args.toList,ev x=ev' x:=fun x j=>g x (by simp [Call.operands];simpa using j)
   have h0:((args[0]?).bind fun x=>bE (ev x))=(args[0]?).bind fun x=>bE (ev' x):=by
    cases hq:args[0]? with
    |none=>rfl
    |some y=>
     have:y∈args.toList:=by
      rw [<-Array.getElem?_toList]at hq;exact EO hq
     simp [r y this]
   cases b<;>simp only [h0,xU r]
theorem a0J{lv lv':Nat->Option (Y14)}(g: ∀x∈o.op.operands,ev x=ev' x)(j: ∀s,lv s=lv' s):gB E o ev lv=gB E o ev' lv':=by
 have:lv=lv':=funext j;subst this;unfold gB
 cases hop:o.op<;>simp only [hop,Op.operands]at g⊢
 case load t x=>rw [g x JH]
theorem a1S{lv lv':Nat->Option (Y14)}(g: ∀x∈o.op.operands,ev x=ev' x)(j: ∀s,lv s=lv' s):iG E o ev lv=iG E o ev' lv':=by
 have:lv=lv':=funext j;subst this;unfold iG
 cases hop:o.op<;>simp only [hop,Op.operands]at g⊢
 case store t a x=>rw [g a JH,g x JH]
theorem B7(j: ∀x∈o.op.operands,ev x=ev' x):dR E o ev h=dR E o ev' h:=by
 unfold dR
 cases hop:o.op<;>simp only [hop,Op.operands]at j⊢
 case load t x=>rw [j x JH]
 case convert s d x=>rw [j x JH]
 case slice t x lo hi mx=>
  rw [j x JH,yC (ev:=ev) (ev':=ev') (fun y m=>j y (by subst m;simp)),yC (ev:=ev) (ev':=ev') (x:=hi) (fun y m=>j y (by subst m;simp))]
 case lookup t x k ok=>rw [j x JH,j k JH]
 case call c=>
  obtain⟨g,args,l⟩:=c
  cases g with
  |value x=>rfl
  |invoke x n=>rfl
  |builtin b=>
   have p: ∀x∈args.toList,ev x=ev' x:=fun x q=>j x (by simp [Call.operands];simpa using q)
   have h0:((args[0]?).bind fun x=>bE (ev x))=(args[0]?).bind fun x=>bE (ev' x):=by
    cases hq:args[0]? with
    |none=>rfl
    |some y=>
     have:y∈args.toList:=by
      rw [<-Array.getElem?_toList]at hq;exact EO hq
     simp [p y this]
   cases b<;>simp only [h0]
theorem Zq(g: ∀x∈o.op.operands,ev x=ev' x):gS E f o ev h=gS E f o ev' h:=by
 unfold gS
 cases hop:o.op<;>simp only [hop,Op.operands]at g⊢
 case move x=>rw [g x JH]
 case box t x=>rw [g x JH]
 case buildSlice t n ps=>rw [wG (ev:=ev) (ev':=ev') (fun x y=>g x (by simpa using y))]
 case makeSlice t l c=>rw [g l JH,g c JH]
 case convert s d x=>rw [g x JH]
 case store t a x=>rw [g a JH,g x JH]
 case mapUpdate t m k x=>rw [g m JH,g k JH,g x JH]
 case mapEntry t m k=>rw [g m JH,g k JH]
 case entryStore t m s x=>rw [g m JH,g s JH,g x JH]
 case call c=>
  obtain⟨p,args,q⟩:=c
  cases p with
  |value x=>rfl
  |invoke x n=>rfl
  |builtin b=>
   have r: ∀x∈args.toList,ev x=ev' x:=fun x y=>g x (by simp [Call.operands];simpa using y)
   cases b<;>try rfl
   ·simp only;split
    ·rename_i z A _ j;rw [r z (by rw [j];simp),r A (by rw [j];simp)]
    ·rfl
   ·simp only;split
    ·rename_i z A _ j;rw [r z (by rw [j];simp),r A (by rw [j];simp)]
    ·rfl
theorem a3G{n:Nat}(p: ∀x∈o.op.operands,ev x=ev' x):H7 E f o ev n=H7 E f o ev' n:=by
 unfold H7
 cases hop:o.op<;>simp only [hop,Op.operands]at p⊢
 case makeSlice t l c=>rw [p l JH,p c JH]
 case call c=>
  obtain⟨g,args,j⟩:=c
  cases g with
  |value x=>rfl
  |invoke x n=>rfl
  |builtin b=>
   have q: ∀x∈args.toList,ev x=ev' x:=fun x r=>p x (by simp [Call.operands];simpa using r)
   cases b<;>try rfl
   simp only;split
   ·rename_i y z _ m;rw [q y (by rw [m];simp),q z (by rw [m];simp)]
   ·rfl
theorem B9(l: ∀x∈o.op.operands,ev x=ev' x):kS o ev=kS o ev':=by
 unfold kS
 cases hop:o.op<;>simp only [hop,Op.operands]at l⊢
 case load t x=>rw [l x JH]
 case convert s d x=>rw [l x JH]
 case slice t x lo hi mx=>rw [l x JH]
 case lookup t x k ok=>rw [l x JH]
 case call c=>
  obtain⟨g,args,j⟩:=c
  cases g with
  |value x=>rfl
  |invoke x n=>rfl
  |builtin b=>
   have m: ∀x∈args.toList,ev x=ev' x:=fun x p=>l x (by simp [Call.operands];simpa using p)
   have h0:((args[0]?).bind fun x=>bE (ev x))=(args[0]?).bind fun x=>bE (ev' x):=by
    cases hq:args[0]? with
    |none=>rfl
    |some y=>
     have:y∈args.toList:=by
      rw [<-Array.getElem?_toList]at hq;exact EO hq
     simp [m y this]
   cases b<;>simp only [h0]
theorem De(l: ∀x∈o.op.operands,ev x=ev' x):dO o ev=dO o ev':=by
 unfold dO
 cases hop:o.op<;>simp only [hop,Op.operands]at l⊢
 case call c=>
  obtain⟨g,args,j⟩:=c
  cases g with
  |builtin b=>rfl
  |invoke x n=>rfl
  |value x=>
   have p: ∀x∈args.toList,ev x=ev' x:=fun y m=>l y (by simp [Call.operands];simp at m;exact .inr m)
   simp only;rw [l x (by simp [Call.operands]),xU p]
end
def nQ(h h2:Heap):Y10->Prop
 |none=>True
 |some id=>h2.get id=h.get id
theorem B8{E:Env}{o:Oper}{ev:Operand->Option TV}{h h2:Heap}{v:TV}(g:dR E o ev h=some v)(l:nQ h h2 (kS o ev)):dR E o ev h2=some v:=by
 unfold kS at l;unfold dR at g⊢;split at g
 ·rename_i t a j;simp only [j]at l⊢;split at g
  ·rename_i id y D;simp only [D,nQ]at l⊢;rw [l];exact g
  ·cases g
 ·rename_i s d x j;simp only [j]at l⊢;split at g
  ·rename_i e id y len z p r;simp only [r,nQ]at l;simp only [z,p,r,l];exact g
  ·cases g
 ·rename_i t x R L V j;simp only [j]at l⊢;split at g
  ·rename_i n e id y p r;simp only [r,nQ]at l;simp only [p,r,l];exact g
  ·cases g
 ·rename_i t x k ok j;simp only [j]at l⊢;split at g
  ·rename_i O K m G z p r
   cases m with
   |map id=>
    rw [p]at l;have A:h2.get id=h.get id:=l;simp only [A]at g⊢;exact g
   |_=>exact g
  ·cases g
 ·rename_i args q _ j;simp only [j]at l⊢;split at g
  ·rename_i t id z p;simp only [p,nQ]at l;simp only [z,p,l];exact g
  ·cases g
 ·cases g
theorem a1H{E:Env}{o:Oper}{ev:Operand->Option TV}{h:Heap}{v:TV}{id:Nat}(g:dR E o ev h=some v)(l:kS o ev=some id):h.get id≠ .free:=by
 intro hf;unfold kS at l;unfold dR at g;split at g
 ·rename_i t a j;simp only [j]at l;split at g
  ·rename_i p y D;simp only [D,AB]at l;subst l;rw [hf]at g;cases g
  ·cases g
 ·rename_i s d x j;simp only [j]at l;split at g
  ·rename_i e p y len A r z;simp only [z,AB]at l;subst l;simp only [hf]at g;split at g
   ·simp_all
   ·cases g
  ·cases g
 ·rename_i t x R G V j;simp only [j]at l;split at g
  ·rename_i n e p y r z;simp only [z,AB]at l;subst l;rw [hf]at g;simp at g
  ·cases g
 ·rename_i t x k ok j;simp only [j]at l;split at g
  ·rename_i O L m K A r z;rw [r]at l
   cases m with
   |map p=>
    simp only [AB]at l;subst l;simp only [hf]at g;split at g
    ·simp_all
    ·cases g
   |_=>cases l
  ·cases g
 ·rename_i args q _ j;simp only [j]at l;split at g
  ·rename_i t p A r;simp only [r,AB]at l;subst l;rw [hf]at g;simp at g
  ·cases g
 ·cases g
structure FF where
 tm:Nat->Option TV
 lv:Nat->Option (Y14)
def Fr.ff(g:Fr):FF:=⟨g.tm.get,g.lv.get⟩
def FF.put(F:FF)(d:Option Tmp)(v:Option TV):FF:=
 match d with
 |some t=> {F with tm:=fun k=>if k=t then v else F.tm k }
 |none=>F
def FF.lset(F:FF)(s:Nat)(cs:Y14):FF:= {F with lv:=fun k=>if k=s then some cs else F.lv k }
def FF.clr(F:FF)(s:Nat):FF:= {F with tm:=fun k=>match F.tm k with|some x=>if tC s x then some x else none|none=>none }
def FF.app(F:FF)(d:Option Tmp)(e:Ef):FF:=
 match e.loc with
 |some (s,cs)=>if e.box then((F.clr s).lset s cs).put d e.v else(F.put d e.v).lset s cs
 |none=>F.put d e.v
theorem Pf(g:Fr)(d:Option Tmp)(v:Option TV):(g.put d v).ff=g.ff.put d v:=by
 cases d with
 |none=>rfl
 |some t=>
  simp only [Fr.put,Fr.ff,FF.put]
  congr 1
  funext k;rw [PT.get_set]
theorem a6B(g:Fr)(d:Option Tmp)(e:Ef):(g.app d e).ff=g.ff.app d e:=by
 unfold Fr.app FF.app
 cases e.loc with
 |none=>exact Pf _ _ _
 |some q=>
  obtain⟨s,cs⟩:=q;simp only;split
  ·rw [Pf]
   congr 1
   simp only [Fr.box,Fr.ff,FF.lset,FF.clr]
   congr 1
   ·funext k;rw [PT.get_filt];cases g.tm.get k<;>rfl
   ·funext k;rw [PT.get_set]
  ·have h1:=Pf g d e.v;have h2:(g.put d e.v).lv=g.lv:=by cases d<;>rfl
   have h3:(Fr.ff {g.put d e.v with lv:=g.lv.set s (some cs) })=(Fr.ff (g.put d e.v)).lset s cs:=by
    simp only [Fr.ff,FF.lset]
    congr 1
    funext k;rw [PT.get_set,h2]
   rw [h3,h1]
section
variable (E:Env) (f:FuncId) (cf:FuncId->Y14->Heap->Option (IV×Heap)) (ops:List Oper) (bef:Nat->Nat)
def Gv(g:List Nat)(rs:Nat->Y10)(draw:Bool):List (Oper×Nat)->Met->Pd->FF->Heap->FF->Heap->Prop
 | [],_,_,F,h,F',h'=>F=F'/\h=h'
 | (o,i)::r,m,pd,F,h,F',h'=> ∃e,dJ E f cf ops draw (rs i) o F.tm F.lv h=some e/\(draw=true->okB g rs m pd (bef i) (kS o (aX E F.tm)) e=true)/\Gv g rs draw r (m.add e.c i) (nN E o (aX E F.tm) e i pd) (F.app o.dst e) e.h F' h'
theorem Xg{q:List Nat}{rs:Nat->Y10}{draw:Bool} : ∀{l:List (Oper×Nat)}{m:Met}{p:Pd}{j g:Fr}{h h':Heap},nP E f cf ops draw bef q rs l m p j h=some (g,h')->Gv E f cf ops bef q rs draw l m p j.ff h g.ff h'
 | [],m,p,j,g,h,h',hr=>by simp [nP]at hr;obtain⟨rfl,rfl⟩:=hr;exact⟨rfl,rfl⟩
 | (o,i)::r,m,p,j,g,h,h',hr=>by
  unfold nP at hr;split at hr
  case h_2=>simp at hr
  rename_i e y;split at hr
  case isFalse=>simp at hr
  rename_i z;refine⟨e,y,fun hd=>by subst hd;simpa [Fr.ff]using z,?_⟩;rw [<-a6B];exact Xg hr
end
mutual
theorem Dt: ∀{a b:IV},Po a b=true->a=b:=by
 intro a b h
 cases a<;>cases b<;>simp only [Po,AD,decide_eq_true_eq,beq_iff_eq,AU]at h
 all_goals first
  |rfl
  | (subst h;rfl)
  | (obtain⟨h1,h2⟩:=h;have e1:=AN h1;have e2:=AN h2;subst e1;subst e2;rfl)
  | (obtain⟨h1,h2⟩:=h;subst h1;subst h2;rfl)
  | (have e1:=AN h;subst e1;rfl)
  | (have e1:=pJ h;subst e1;rfl)
  | (obtain⟨h1,h2⟩:=h;have e1:=AN h1;have e2:=pJ h2;subst e1;subst e2;rfl)
  | (obtain⟨h1,h2,h3⟩:=h;have e2:=pJ h2;have e3:=pJ h3;subst h1;subst e2;subst e3;rfl)
  | (obtain⟨h1,h2⟩:=h;have e2:=Dt h2;subst h1;subst e2;rfl)
  | (obtain⟨h1,h2,h3,h4⟩:=h;have e1:=AN h1;have e2:=AN h2;have e3:=AN h3;have e4:=AN h4;subst e1;subst e2;subst e3;subst e4;rfl)
  | (obtain⟨h1,h2,h3,h4,h5⟩:=h;have e2:=AN h2;have e3:=AN h3;have e4:=AN h4;have e5:=pJ h5;subst h1;subst e2;subst e3;subst e4;subst e5;rfl)
theorem pJ: ∀{a b:Y14},pI a b=true->a=b:=by
 intro a b h
 cases a with
 |nil=>cases b with
  |nil=>rfl
  |cons y r=>simp [pI]at h
 |cons x l=>cases b with
  |nil=>simp [pI]at h
  |cons y r=>
   simp only [pI,AD]at h;rw [Dt h.1,pJ h.2]
end
mutual
theorem A2: ∀a:IV,Po a a=true:=by
 intro a;have nb: ∀n:Nat,Nat.beq n n=true:=fun n=>IW n
 cases a<;>simp only [Po,nb,decide_true,IN,beq_self_eq_true,BC]
 all_goals first
  |exact rD _
  | (rw [rD,rD];rfl)
  |exact A2 _
theorem rD: ∀a:Y14,pI a a=true:=by
 intro a
 cases a with
 |nil=>rfl
 |cons x r=>simp only [pI,A2 x,rD r,IN]
end
theorem c1U{a b:TV}(h:c1T a b=true):a=b:=by
 unfold c1T at h;split at h
 ·rw [Dt h]
 ·cases h
def jQ:Cls->Cls->Bool
 | .l,.s=>true
 | .s,.l=>true
 | .s,.s=>true
 | .r,.e=>true
 | .e,.r=>true
 | .e,.e=>true
 | .a,.e=>true
 | .e,.a=>true
 |_,_=>false
section
variable {E:Env} {f:FuncId} {cf:FuncId->Y14->Heap->Option (IV×Heap)} {ops:List Oper}
theorem Aa{o:Oper}{ev:Operand->Option TV}{lv:Nat->Option (Y14)}{v:TV}(h:gB E o ev lv=some v): ∃t a s g,o.op= .load t a/\ev a=some (.l s g):=by
 unfold gB at h;split at h
 ·rename_i t a j;split at h
  ·rename_i s g m;exact⟨t,a,s,g,j,m⟩
  ·simp at h
 ·simp at h
theorem wJ{o:Oper}{ev:Operand->Option TV}{lv:Nat->Option (Y14)}{v:Nat×Y14}(h:iG E o ev lv=some v): ∃t a x s g,o.op= .store t a x/\ev a=some (.l s g):=by
 unfold iG at h;split at h
 ·rename_i t a x j;split at h
  ·rename_i s g q m p;exact⟨t,a,x,s,g,j,m⟩
  ·simp at h
 ·simp at h
theorem nI{o:Oper}{ev:Operand->Option TV}{h:Heap}(m:(dR E o ev h).isSome\/ (gS E f o ev h).isSome\/ (dO o ev).isSome)(lv:Nat->Option (Y14)):gB E o ev lv=none/\iG E o ev lv=none:=by
 constructor
 ·cases hl:gB E o ev lv with
  |none=>rfl
  |some v=>
   obtain⟨t,a,s,l,g,j⟩:=Aa hl;simp [dR,gS,dO,g,j]at m
 ·cases hl:iG E o ev lv with
  |none=>rfl
  |some v=>
   obtain⟨t,a,x,s,l,g,j⟩:=wJ hl;simp [dR,gS,dO,g,j]at m
theorem a1I{o:Oper}{ev:Operand->Option TV}{h:Heap}(l:(gS E f o ev h).isSome\/ (dO o ev).isSome)(h2:Heap):dR E o ev h2=none:=by
 cases hr:dR E o ev h2 with
 |none=>rfl
 |some v=>
  unfold dR at hr
  cases hop:o.op<;>simp only [hop]at hr<;>try (simp at hr;done)
  case load t a=>simp [gS,dO,hop]at l
  case convert s d x=>
   split at hr
   ·rename_i e id p len h1 m h3;simp [gS,dO,hop,h1,m,h3]at l
   ·simp at hr
  case slice t x lo hi mx=>simp [gS,dO,hop]at l
  case lookup t x k ok=>simp [gS,dO,hop]at l
  case call c=>
   obtain⟨g,args,j⟩:=c
   cases g with
   |value x=>simp at hr
   |invoke x n=>simp at hr
   |builtin b=>cases b<;>simp at hr<;>simp [gS,dO,hop]at l
theorem a5X{o:Oper}{m:Nat->Option TV}{x:Operand}{s j:Nat}(p:x∈o.op.operands)(h:aX E m x=some (.l s j)): ∃t,t∈o.looksAt ops.toArray/\m t=some (.l s j):=by
 cases x with
 |tmp t=>
  refine⟨t,?_,h⟩;simp only [Oper.looksAt,BU,HC];exact .inl ⟨.tmp t,by simpa using p,rfl⟩
 |const v=>
  simp only [aX]at h;obtain⟨y,_,h2⟩:=AE.1 h
  cases h2
 |global g=>
  simp only [aX]at h;obtain⟨y,_,h2⟩:=AE.1 h
  cases h2
 |func g=>simp [aX]at h
theorem b9C{o:Oper}{ev:Operand->Option TV}{lv:Nat->Option (Y14)}{v:TV}(h:gB E o ev lv=some v): ∃x∈o.op.operands,∃s g,ev x=some (.l s g)/\(∃cs,lv s=some cs)/\∀lv2,lv2 s=lv s->gB E o ev lv2=some v:=by
 unfold gB at h;split at h
 ·rename_i t a j;split at h
  ·rename_i s g m;refine⟨a,by simp [j,Op.operands],s,g,m,?_,fun lv2 e=>?_⟩
   ·split at h
    ·rename_i cs p;exact⟨cs,p⟩
    ·simp at h
   ·simp only [gB,j,m,e];exact h
  ·simp at h
 ·simp at h
theorem c1C{o:Oper}{ev:Operand->Option TV}{lv:Nat->Option (Y14)}{q:Nat×Y14}(h:iG E o ev lv=some q): ∃x∈o.op.operands,∃g,ev x=some (.l q.1 g)/\(∃cs,lv q.1=some cs)/\∀lv2,lv2 q.1=lv q.1->iG E o ev lv2=some q:=by
 unfold iG at h;split at h
 ·rename_i t a x j;split at h
  ·rename_i s g v m r;split at h
   ·rename_i cs p;obtain⟨y,h1,h2⟩:=AE.1 h;subst h2;refine⟨a,by simp [j,Op.operands],g,m,⟨cs,p⟩,fun lv2 e=>?_⟩;simp only at e;simp only [iG,j,m,r,e,p];exact h
   ·simp at h
  ·simp at h
 ·simp at h
theorem a0K{o:Oper}{ev:Operand->Option TV}{lv lv2:Nat->Option (Y14)}{q:Nat×Y14}(h:iG E o ev lv=some q):gB E o ev lv2=none:=by
 obtain⟨t,a,x,s,j,g,l⟩:=wJ h;simp [gB,g]
def rV(E:Env)(cf:FuncId->Y14->Heap->Option (IV×Heap)):Prop:= ∀g,E.iso g=true-> ∀xs h v h',cf g xs h=some (v,h')->h'=h/\∀h2,cf g xs h2=some (v,h2)
theorem Zr{o:Oper}{ev:Operand->Option TV}(j:(dO o ev).isSome)(h2:Heap):gS E f o ev h2=none:=by
 unfold dO at j;split at j
 ·rename_i x args _ g;simp [gS,g]
 ·simp at j
theorem Y3(L:rV E cf){o:Oper}{m:Nat->Option TV}{lv:Nat->Option (Y14)}{h:Heap}{e:Ef}(j:vU E f cf ops true o m lv h=some e):
  e.box=false/\
  (e.c= .p->e.loc=none/\e.h=h/\∀lv2 h2,vU E f cf ops true o m lv2 h2=some {e with h:=h2 })/\
  (e.c= .l->e.loc=none/\e.h=h/\∃t s y,t∈o.looksAt ops.toArray/\m t=some (.l s y)/\(∃cs,lv s=some cs)/\∀lv2 h2,lv2 s=lv s->vU E f cf ops true o m lv2 h2=some {e with h:=h2 })/\
  (e.c= .s->e.h=h/\∃t s y cs,t∈o.looksAt ops.toArray/\m t=some (.l s y)/\(∃cs,lv s=some cs)/\e.loc=some (s,cs)/\∀lv2 h2,lv2 s=lv s->vU E f cf ops true o m lv2 h2=some {e with h:=h2 })/\
  (e.c= .r->e.loc=none/\e.h=h/\∀lv2,vU E f cf ops true o m lv2 h=some e)/\
  (e.c= .e->e.loc=none/\∀lv2,vU E f cf ops true o m lv2 h=some e)/\
  (e.c= .b->e.h=h/\∃d cs,o.dst=some d/\e.loc=some (d,cs)/\lv d=none/\∀lv2 h2,lv2 d=none->vU E f cf ops true o m lv2 h2=some {e with h:=h2 }):=by
 unfold vU at j
 cases hw:dK ops m o with
 |none=>simp [hw]at j
 |some b=>
  simp only [hw]at j
  cases b with
  |false=>
   simp only [AB]at j;subst j;refine⟨rfl,fun _=>⟨rfl,rfl,fun lv2 h2=>by simp [vU,hw]⟩,?_,?_,?_,?_,?_⟩<;>intro hc<;>simp at hc
  |true=>
   simp only at j;have hE: ∀lv2 h2,vU E f cf ops true o m lv2 h2=eB E f cf true o (aX E m) lv2 h2:=fun lv2 h2=>by simp [vU,hw]
   simp only [hE];unfold eB at j⊢
   cases hp:eH E f o (aX E m)with
   |some q=>
    obtain⟨v,bx⟩:=q;simp only [hp]at j⊢;split at j
    ·rename_i cs d hd;simp only [if_true]at j;split at j
     case h_2=>cases j
     rename_i X;simp only [AB]at j;subst j;refine⟨rfl,?_,?_,?_,?_,?_,fun _=>⟨rfl,d,cs,hd,rfl,X,fun lv2 h2 e=>by simp [e]⟩⟩<;>intro hc<;>simp at hc
    ·rename_i a0;simp only [AB]at j;subst j;refine⟨rfl,fun _=>⟨rfl,rfl,fun lv2 h2=>rfl⟩,?_,?_,?_,?_,?_⟩<;>intro hc<;>simp at hc
    ·simp at j
   |none=>
    simp only [hp]at j⊢
    cases hl:gB E o (aX E m) lv with
    |some v=>
     simp only [hl,AB]at j;subst j;obtain⟨x,Z,s,y,h1,h2,h3⟩:=b9C hl;obtain⟨t,A,D⟩:=a5X (ops:=ops) Z h1;refine⟨rfl,?_,fun _=>⟨rfl,rfl,t,s,y,A,D,h2,fun lv2 O e=>by simp only [h3 lv2 e]⟩,?_,?_,?_,?_⟩<;>intro hc<;>simp at hc
    |none=>
     simp only [hl]at j
     cases hs:iG E o (aX E m) lv with
     |some q=>
      obtain⟨x,Z,y,h1,h2,h3⟩:=c1C hs;obtain⟨t,A,D⟩:=a5X (ops:=ops) Z h1;have V:=fun lv2=>a0K (lv2:=lv2) hs
      obtain⟨s,cs⟩:=q;simp only [hs,AB]at j;subst j;refine⟨rfl,?_,?_,fun _=>⟨rfl,t,s,y,cs,A,D,h2,rfl,fun lv2 O e=>by simp only [V lv2,h3 lv2 e]⟩,?_,?_,?_⟩<;>intro hc<;>simp at hc
     |none=>
      simp only [hs]at j
      cases hr:dR E o (aX E m) h with
      |some v=>
       simp only [hr,AB]at j;subst j;have z:=fun lv2=>nI (E:=E) (f:=f) (o:=o) (ev:=aX E m) (h:=h) (.inl (by simp [hr])) lv2
       refine⟨rfl,?_,?_,?_,fun _=>⟨rfl,rfl,fun lv2=>by simp only [(z lv2).1,(z lv2).2,hr]⟩,?_,?_⟩<;>intro hc<;>simp at hc
      |none=>
       simp only [hr]at j
       cases hee:gS E f o (aX E m) h with
       |some q=>
        obtain⟨v,h'⟩:=q;simp only [hee,AB]at j;subst j;have z:=fun lv2=>nI (E:=E) (f:=f) (o:=o) (ev:=aX E m) (h:=h) (.inr (.inl (by simp [hee]))) lv2
        refine⟨rfl,?_,?_,?_,?_,fun _=>⟨rfl,fun lv2=>by simp only [(z lv2).1,(z lv2).2,hr,hee]⟩,?_⟩<;>intro hc<;>simp at hc
       |none=>
        simp only [hee]at j
        cases hcl:dO o (aX E m)with
        |none=>simp [hcl]at j
        |some q=>
         obtain⟨g,xs⟩:=q;simp only [hcl]at j;split at j
         case h_2=>simp at j
         rename_i v h' K;simp only [AB]at j
         cases hiso:E.iso g with
         |true=>
          simp only [hiso,rC]at j;subst j;obtain⟨rfl,G⟩:=L g hiso _ _ _ _ K;have z:=fun lv2=>nI (E:=E) (f:=f) (o:=o) (ev:=aX E m) (h:=h') (.inr (.inr (by simp [hcl]))) lv2
          have Y:=a1I (E:=E) (f:=f) (o:=o) (ev:=aX E m) (h:=h') (.inr (by simp [hcl]));have R:=Zr (E:=E) (f:=f) (o:=o) (ev:=aX E m) (by simp [hcl]);refine⟨rfl,fun _=>⟨rfl,rfl,fun lv2 h2=>by simp only [(z lv2).1,(z lv2).2,Y h2,R h2,hcl,G h2,hiso,rC]⟩,?_,?_,?_,?_,?_⟩<;>intro hc<;>simp at hc
         |false=>
         simp only [hiso,rC]at j;subst j;have z:=fun lv2=>nI (E:=E) (f:=f) (o:=o) (ev:=aX E m) (h:=h) (.inr (.inr (by simp [hcl]))) lv2
         refine⟨rfl,?_,?_,?_,?_,fun _=>⟨rfl,fun lv2=>by simp only [(z lv2).1,(z lv2).2,hr,hee,hcl,K,hiso,rC]⟩,?_⟩<;>intro hc<;>simp at hc
def sL(F:FF):Prop:= ∀k s off,F.tm k=some (.l s off)-> ∃cs,F.lv s=some cs
theorem F3{o:Oper}{l g:Nat->Option TV}(h: ∀t∈o.looksAt ops.toArray,l t=g t):dK ops l o=dK ops g o:=by
 unfold dK
 cases hg:o.guard with
 |none=>rfl
 |some q=>
  obtain⟨j,b⟩:=q;simp only
  cases hd:(ops[j]?).bind (·.dst)with
  |none=>rfl
  |some d=>
   have:d∈o.looksAt ops.toArray:=by
    simp only [Oper.looksAt,hg,DV,hd];simp
   simp only [h d this]
theorem lB{o:Oper}{l j:Nat->Option TV}(h: ∀t∈o.looksAt ops.toArray,l t=j t): ∀x∈o.op.operands,aX E l x=aX E j x:=by
 intro x m
 cases x with
 |tmp t=>
  simp only [aX];refine h t ?_;simp only [Oper.looksAt,BU,HC];exact .inl ⟨.tmp t,by simpa using m,rfl⟩
 |const v=>rfl
 |global g=>rfl
 |func g=>rfl
theorem a5T{draw:Bool}{o:Oper}{m j:Nat->Option TV}{lv:Nat->Option (Y14)}{h:Heap}(l: ∀t∈o.looksAt ops.toArray,m t=j t):vU E f cf ops draw o m lv h=vU E f cf ops draw o j lv h:=by
 have g:=lB (E:=E) l;simp only [vU,F3 l,eB,a1C (E:=E) (f:=f) g,a0J (E:=E) (lv:=lv) (lv':=lv) g (fun _=>rfl),a1S (E:=E) (lv:=lv) (lv':=lv) g (fun _=>rfl),B7 (E:=E) (h:=h) g,Zq (E:=E) (f:=f) (h:=h) g,De g]
theorem FF.ext'{F G:FF}(h1: ∀k,F.tm k=G.tm k)(h2: ∀k,F.lv k=G.lv k):F=G:=by
 obtain⟨a,b⟩:=F;obtain⟨c,d⟩:=G;have g:a=c:=funext h1;have j:b=d:=funext h2;subst g;subst j;rfl
theorem fS{F:FF}{d:Option Tmp}{e:Ef}(g:e.box=false)(k:Nat):(F.app d e).tm k=if d=some k then e.v else F.tm k:=by
 unfold FF.app
 cases e.loc with
 |none=>
  cases d with
  |none=>simp [FF.put]
  |some t=>
   simp only [FF.put,AB]
   by_cases h:k=t
   ·simp [h]
   ·simp [h,show¬t=k from fun e=>h e.symm]
 |some q=>
  simp only [g,AU,if_false,FF.lset]
  cases d with
  |none=>simp [FF.put]
  |some t=>
   simp only [FF.put,AB]
   by_cases h:k=t
   ·simp [h]
   ·simp [h,show¬t=k from fun e=>h e.symm]
theorem iO{F:FF}{d:Option Tmp}{e:Ef}(g:e.box=false)(k:Nat):(F.app d e).lv k=match e.loc with|some (s,cs)=>if k=s then some cs else F.lv k|none=>F.lv k:=by
 unfold FF.app
 cases hl:e.loc with
 |none=>cases d<;>rfl
 |some q=>
  simp only [g,AU,if_false,FF.lset]
  cases d<;>rfl
theorem sL.app(z:rV E cf){o:Oper}{F:FF}{h:Heap}{e:Ef}(G:sL F)(j:vU E f cf ops true o F.tm F.lv h=some e):sL (F.app o.dst e):=by
 have K:=(Y3 z j).1;have r: ∀s,(∃cs,F.lv s=some cs)-> ∃cs,(F.app o.dst e).lv s=some cs:=by
  rintro s ⟨cs,A⟩;rw [iO K]
  cases e.loc with
  |none=>exact⟨cs,A⟩
  |some q=>
   obtain⟨V,cs'⟩:=q;simp only
   by_cases m:s=V
   ·exact⟨cs',by rw [if_pos m]⟩
   ·exact⟨cs,by rw [if_neg m];exact A⟩
 intro k s D m;rw [fS K]at m;split at m
 case isFalse=>exact r s (G k s D m)
 rename_i hd;unfold vU at j
 cases hw:dK ops F.tm o with
 |none=>simp [hw]at j
 |some b=>
  simp only [hw]at j
  cases b with
  |false=>simp only [AB]at j;subst j;simp at m
  |true=>
   simp only at j;unfold eB at j
   cases hp:eH E f o (aX E F.tm)with
   |some q=>
    obtain⟨v,L⟩:=q;simp only [hp]at j
    cases L with
    |none=>
     simp only [AB]at j;subst j;simp only [AB]at m;subst m;obtain⟨x,R,p⟩:=b0D hp
     cases x with
     |tmp t=>exact r s (G t s R p)
     |const c=>simp only [aX]at p;obtain⟨y,_,h2⟩:=AE.1 p;cases h2
     |global g=>simp only [aX]at p;obtain⟨y,_,h2⟩:=AE.1 p;cases h2
     |func g=>simp [aX]at p
    |some cs=>
     simp only [hd,if_true]at j;split at j
     case h_2=>cases j
     rename_i r;simp only [AB]at j;subst j;simp only [AB]at m;subst m;obtain rfl:=b0C hp hd;refine⟨cs,?_⟩;rw [iO rfl];simp
   |none=>
    simp only [hp]at j;exfalso;have O: ∀tv,e.v=some tv-> ∃x,tv= .v x:=by
     intro tv l
     cases hl:gB E o (aX E F.tm) F.lv with
     |some v=>
      simp only [hl,AB]at j;subst j;simp only [AB]at l;subst l;unfold gB at hl
      repeat' split at hl
      all_goals first| (cases hl;done)| (obtain⟨y,_,h2⟩:=AE.1 hl;exact⟨y,h2.symm⟩)
     |none=>
     simp only [hl]at j
     cases A:iG E o (aX E F.tm) F.lv with
     |some v=>simp only [A,AB]at j;subst j;cases l
     |none=>
     simp only [A]at j
     cases hr:dR E o (aX E F.tm) h with
     |some v=>
      simp only [hr,AB]at j;subst j;simp only [AB]at l;subst l;exact b0K hr
     |none=>
     simp only [hr]at j
     cases hee:gS E f o (aX E F.tm) h with
     |some q=>
      simp only [hee,AB]at j;subst j;exact c7W hee l
     |none=>
     simp only [hee]at j;split at j
     ·split at j
      ·simp only [AB]at j;subst j;simp only [AB]at l;exact⟨_,l.symm⟩
      ·cases j
     ·cases j
    obtain⟨x,p⟩:=O _ m
    cases p
theorem Zu{draw:Bool}{o:Oper}{j:Nat->Option TV}{lv:Nat->Option (Y14)}{h:Heap}{e:Ef}(g:vU E f cf ops draw o j lv h=some e):e.c≠ .a:=by
 unfold vU at g;split at g
 ·cases g
 ·simp only [AB]at g;subst g;simp
 ·unfold eB at g
  repeat' split at g
  all_goals first
   | (cases g;done)
   | (simp only [AB]at g;subst g;first| (simp;done)| (simp only [rC];split<;>simp))
theorem zX{draw:Bool}{n:Nat}{o:Oper}{l:Nat->Option TV}{lv:Nat->Option (Y14)}{h:Heap}{e:Ef}(g:dJ E f cf ops draw (some n) o l lv h=some e):
  e=⟨.p,some .u,none,false,h⟩ \/ (∃v,H7 E f o (aX E l) n=some (v,none)/\e=⟨.p,v,none,false,h⟩) \/ ∃v x,H7 E f o (aX E l) n=some (v,some x)/\h.get n= .free/\e=⟨.a,v,none,false,h.set n x⟩:=by
 unfold dJ at g;simp only at g;split at g
 ·cases g
 ·simp only [AB]at g;exact .inl g.symm
 ·split at g
  ·rename_i v j;simp only [AB]at g;exact .inr (.inl ⟨v,j,g.symm⟩)
  ·rename_i v x j;split at g
   ·rename_i hf;simp only [AB]at g;exact .inr (.inr ⟨v,x,j,hf,g.symm⟩)
   ·cases g
  ·cases g
theorem tZ{draw:Bool}{rs:Y10}{o:Oper}{l g:Nat->Option TV}{lv:Nat->Option (Y14)}{h:Heap}(j: ∀t∈o.looksAt ops.toArray,l t=g t):dJ E f cf ops draw rs o l lv h=dJ E f cf ops draw rs o g lv h:=by
 unfold dJ
 rw [a5T j,F3 j]
 cases rs with
 |none=>rfl
 |some n=>simp only [a3G (lB (E:=E) j)]
theorem M4{o:Oper}{j:Nat->Option TV}{lv:Nat->Option (Y14)}{h h2:Heap}{e:Ef}(g:vU E f cf ops true o j lv h=some e)(l:e.c= .r):
  ∃v,dR E o (aX E j) h=some v/\e.v=some v/\(dR E o (aX E j) h2=some v-> ∀lv2,vU E f cf ops true o j lv2 h2=some {e with h:=h2 }):=by
 unfold vU at g⊢
 cases hw:dK ops j o with
 |none=>simp [hw]at g
 |some b=>
  cases b with
  |false=>
   simp only [hw,AB]at g;subst g;simp at l
  |true=>
   simp only [hw]at g⊢;unfold eB at g⊢
   cases hp:eH E f o (aX E j)with
   |some q=>
    obtain⟨m,z⟩:=q;exfalso;simp only [hp]at g
    repeat' split at g
    all_goals first| (cases g;done)| (simp only [AB]at g;subst g;cases l)
   |none=>
    simp only [hp]at g⊢
    cases hl:gB E o (aX E j) lv with
    |some m=>
     simp only [hl,AB]at g;subst g
     cases l
    |none=>
     simp only [hl]at g⊢
     cases hs:iG E o (aX E j) lv with
     |some q=>
      obtain⟨A,D⟩:=q;simp only [hs,AB]at g;subst g
      cases l
     |none=>
      simp only [hs]at g⊢
      cases hr1:dR E o (aX E j) h with
      |some m=>
       simp only [hr1,AB]at g;subst g;refine⟨m,rfl,rfl,fun y lv2=>?_⟩;have p:=nI (E:=E) (f:=f) (o:=o) (ev:=aX E j) (h:=h) (.inl (by simp [hr1])) lv2;simp only [p.1,p.2,y]
      |none=>
       exfalso;simp only [hr1]at g
       repeat' split at g
       all_goals first| (cases g;done)| (simp only [AB]at g;subst g;first| (cases l;done)| (simp only at l;unfold rC at l;split at l<;>cases l))
theorem jV(h:Heap)(i:Y10):nQ h h i:=by cases i<;>simp [nQ]
theorem eW(y:rV E cf){rs:Y10}{o:Oper}{j:Nat->Option TV}{lv:Nat->Option (Y14)}{h:Heap}{e:Ef}(g:dJ E f cf ops true rs o j lv h=some e):
  e.box=false/\
  (e.c= .p->e.loc=none/\e.h=h/\∀lv2 h2,dJ E f cf ops true rs o j lv2 h2=some {e with h:=h2 })/\
  (e.c= .l->e.loc=none/\e.h=h/\∃t s off,t∈o.looksAt ops.toArray/\j t=some (.l s off)/\(∃cs,lv s=some cs)/\∀lv2 h2,lv2 s=lv s->dJ E f cf ops true rs o j lv2 h2=some {e with h:=h2 })/\
  (e.c= .s->e.h=h/\∃t s off cs,t∈o.looksAt ops.toArray/\j t=some (.l s off)/\(∃cs,lv s=some cs)/\e.loc=some (s,cs)/\∀lv2 h2,lv2 s=lv s->dJ E f cf ops true rs o j lv2 h2=some {e with h:=h2 })/\
  (e.c= .r->e.loc=none/\e.h=h/\(∀lv2 h2,nQ h h2 (kS o (aX E j))->dJ E f cf ops true rs o j lv2 h2=some {e with h:=h2 })/\∀id,kS o (aX E j)=some id->h.get id≠ .free)/\
  (e.c= .e->e.loc=none/\∀lv2,dJ E f cf ops true rs o j lv2 h=some e)/\
  (e.c= .b->e.h=h/\∃d cs,o.dst=some d/\e.loc=some (d,cs)/\lv d=none/\∀lv2 h2,lv2 d=none->dJ E f cf ops true rs o j lv2 h2=some {e with h:=h2 })/\
  (e.c= .a->e.loc=none/\∃n x,rs=some n/\h.get n= .free/\x≠ .free/\e.h=h.set n x/\∀lv2 h2,h2.get n= .free->dJ E f cf ops true rs o j lv2 h2=some {e with h:=h2.set n x }):=by
 cases rs with
 |none=>
  simp only [dJ]at g⊢;have A:=Zu g;obtain⟨b,p,l,s,r,e',x⟩:=Y3 y g;refine⟨b,p,l,s,fun m=>⟨(r m).1,(r m).2.1,fun lv2 h2 K=>?_,fun id z=>?_⟩,e',x,fun m=>absurd m A⟩
  ·obtain⟨v,D,L,G⟩:=M4 (h2:=h2) g m;exact G (B8 D K) lv2
  ·obtain⟨v,D,L,G⟩:=M4 (h2:=h) g m;exact a1H D z
 |some n=>
  unfold dJ at g
  cases hw:dK ops j o with
  |none=>simp [hw]at g
  |some b=>
   simp only [hw]at g
   cases b with
   |false=>
    simp only [AB]at g;subst g;refine⟨rfl,fun _=>⟨rfl,rfl,fun lv2 h2=>by simp [dJ,hw]⟩,?_,?_,?_,?_,?_,?_⟩<;>intro m<;>simp at m
   |true=>
    simp only at g
    cases ha:H7 E f o (aX E j) n with
    |none=>simp [ha]at g
    |some q=>
     obtain⟨v,x⟩:=q;simp only [ha]at g
     cases x with
     |none=>
      simp only [AB]at g;subst g;refine⟨rfl,fun _=>⟨rfl,rfl,fun lv2 h2=>by simp [dJ,hw,ha]⟩,?_,?_,?_,?_,?_,?_⟩<;>intro m<;>simp at m
     |some x=>
      simp only at g;split at g
      case h_2=>cases g
      rename_i hf;simp only [AB]at g;subst g;refine⟨rfl,?_,?_,?_,?_,?_,?_,fun _=>⟨rfl,n,x,rfl,hf,a3H ha,rfl,fun lv2 h2 h0=>by simp [dJ,hw,ha,h0]⟩⟩<;>intro m<;>simp at m
theorem sL.appA(j:rV E cf){rs:Y10}{o:Oper}{F:FF}{h:Heap}{e:Ef}(q:sL F)(r:dJ E f cf ops true rs o F.tm F.lv h=some e):sL (F.app o.dst e):=by
 cases rs with
 |none=>exact q.app j r
 |some n=>
  have g:e.loc=none/\e.box=false/\∀tv,e.v=some tv->(∃x,tv= .v x) \/tv= .u:=by
   rcases zX r with rfl| ⟨v,m,rfl⟩| ⟨v,x,m,_,rfl⟩
   ·exact⟨rfl,rfl,fun tv e=>by simp at e;exact .inr e.symm⟩
   ·exact⟨rfl,rfl,fun tv e=> .inl (c4K m e)⟩
   ·exact⟨rfl,rfl,fun tv e=> .inl (c4K m e)⟩
  intro k s p l;rw [fS g.2.1]at l;rw [iO g.2.1,g.1];split at l
  ·rcases g.2.2 _ l with⟨x,hx⟩|hx<;>cases hx
  ·exact q k s p l
theorem e3Z(X:rV E cf){ra ri:Y10}{a i:Oper}{F:FF}{h:Heap}{q L:Ef}(hA:sL F)(b2:Oper.apart ops.toArray a i=true)(ha:dJ E f cf ops true ra a F.tm F.lv h=some q)
  (hi:dJ E f cf ops true ri i (F.app a.dst q).tm (F.app a.dst q).lv q.h=some L) (hcl:jQ q.c L.c=false)
  (hra:q.c= .a->L.c= .r-> ∀n id,ra=some n->kS i (aX E F.tm)=some id->n≠id):
  ∃g z,dJ E f cf ops true ri i F.tm F.lv h=some g/\dJ E f cf ops true ra a (F.app i.dst g).tm (F.app i.dst g).lv g.h=some z/\g.c=L.c/\z.c=q.c/\
   (F.app i.dst g).app a.dst z=(F.app a.dst q).app i.dst L/\z.h=L.h/\z.v=q.v:=by
 obtain⟨s1,s2,s3⟩:=Oper.apart_spec b2;obtain⟨ab,ap,al,a0,ar,ae,ax,aa⟩:=eW X ha;have b3:dJ E f cf ops true ri i (F.app a.dst q).tm (F.app a.dst q).lv q.h=dJ E f cf ops true ri i F.tm (F.app a.dst q).lv q.h:=by
  refine tZ (fun t ht=>?_);rw [fS ab];rw [if_neg (fun e=>s1 t e ht)]
 rw [b3]at hi;obtain⟨ib,ip,il,c3,ir,ie,ix,ia⟩:=eW X hi;have c5:q.loc=none->(F.app a.dst q).lv=F.lv:=fun e=>funext fun k=>by rw [iO ab,e]
 have Z:q.loc=none\/ ∃s cs,q.loc=some (s,cs)/\((q.c= .s/\∃c0,F.lv s=some c0) \/ (q.c= .b/\a.dst=some s/\F.lv s=none)):=by
  cases hc:q.c with
  |p=>exact .inl (ap hc).1
  |l=>exact .inl (al hc).1
  |r=>exact .inl (ar hc).1
  |e=>exact .inl (ae hc).1
  |a=>exact .inl (aa hc).1
  |s=>
   obtain⟨_,t,s,K,cs,_,_,h1,h2,_⟩:=a0 hc;exact .inr ⟨s,cs,h2,.inl ⟨rfl,h1⟩⟩
  |b=>
   obtain⟨_,d,cs,h1,h2,h3,_⟩:=ax hc;exact .inr ⟨d,cs,h2,.inr ⟨rfl,h1,h3⟩⟩
 have a2: ∀k,(F.app a.dst q).lv k=match q.loc with|some (s,cs)=>if k=s then some cs else F.lv k|none=>F.lv k:=fun k=>iO ab k
 have a7: ∀s,(∃cs,F.lv s=some cs)->jQ q.c .s=false->(F.app a.dst q).lv s=F.lv s:=by
  rintro s ⟨cs,hs⟩ a3;rw [a2];rcases Z with G| ⟨s',cs',G,y|y⟩
  ·rw [G]
  ·rw [y.1]at a3;simp [jQ]at a3
  ·rw [G];simp only;rw [if_neg];rintro rfl;rw [y.2.2]at hs;cases hs
 have b1: ∀t s K,t∈i.looksAt ops.toArray->F.tm t=some (.l s K)-> ∃cs,F.lv s=some cs:=fun t s K _ e=>hA t s K e
 obtain⟨g,e1,e2,e3,e4,e5⟩: ∃g,dJ E f cf ops true ri i F.tm F.lv h=some g/\g.c=L.c/\g.v=L.v/\g.loc=L.loc/\((L.c= .e/\g.h=L.h/\q.h=h) \/ ((L.c≠ .e/\L.c≠ .a)/\g.h=h/\L.h=q.h) \/ (L.c= .a/\∃n x,x≠ .free/\h.get n= .free/\q.h.get n= .free/\g.h=h.set n x/\L.h=q.h.set n x)):=by
  cases hc:L.c with
  |p=>
   obtain⟨p1,D,A⟩:=ip hc;exact⟨_,A F.lv h,hc,rfl,rfl,.inr (.inl ⟨JH,rfl,D⟩)⟩
  |l=>
   obtain⟨p1,D,t,s,K,m,j,q3,A⟩:=il hc;have y:(F.app a.dst q).lv s=F.lv s:=by
    rw [a2];rcases Z with G| ⟨s',cs',G,y|y⟩
    ·rw [G]
    ·rw [y.1,hc]at hcl;simp [jQ]at hcl
    ·rw [G];simp only;rw [if_neg];rintro rfl;obtain⟨c0,h0⟩:=b1 t _ K m j;rw [y.2.2]at h0;cases h0
   exact⟨_,A F.lv h y.symm,hc,rfl,rfl,.inr (.inl ⟨JH,rfl,D⟩)⟩
  |s=>
   obtain⟨D,t,s,K,cs,m,j,q3,q4,A⟩:=c3 hc;have y:(F.app a.dst q).lv s=F.lv s:=a7 s (b1 t s K m j) (by rw [hc]at hcl;exact hcl);exact⟨_,A F.lv h y.symm,hc,rfl,rfl,.inr (.inl ⟨JH,rfl,D⟩)⟩
  |b=>
   obtain⟨D,d,cs,m,j,q3,A⟩:=ix hc;have y:F.lv d=none:=by
    rw [a2]at q3;rcases Z with G| ⟨s',cs',G,y⟩
    ·rw [G]at q3;exact q3
    ·rw [G]at q3;simp only at q3;split at q3
     ·cases q3
     ·exact q3
   exact⟨_,A F.lv h y,hc,rfl,rfl,.inr (.inl ⟨JH,rfl,D⟩)⟩
  |r=>
   obtain⟨p1,D,A,p4⟩:=ir hc;have b4:nQ q.h h (kS i (aX E F.tm)):=by
    cases hca:q.c with
    |p=>rw [(ap hca).2.1];exact jV _ _
    |l=>rw [(al hca).2.1];exact jV _ _
    |s=>rw [(a0 hca).1];exact jV _ _
    |b=>rw [(ax hca).1];exact jV _ _
    |r=>rw [(ar hca).2.1];exact jV _ _
    |e=>rw [hca,hc]at hcl;simp [jQ]at hcl
    |a=>
     obtain⟨_,n,x,m,j,q3,q4,_⟩:=aa hca
     cases hid:kS i (aX E F.tm)with
     |none=>trivial
     |some id=>
      have:=hra hca hc n id m hid;show h.get id=q.h.get id;rw [q4,Heap.get_set,if_neg (fun e=>this e.symm)]
   exact⟨_,A F.lv h b4,hc,rfl,rfl,.inr (.inl ⟨JH,rfl,D⟩)⟩
  |a=>
   obtain⟨p1,n,x,m,j,q3,q4,A⟩:=ia hc;have hf:h.get n= .free:=by
    cases hca:q.c with
    |p=>rw [(ap hca).2.1]at j;exact j
    |l=>rw [(al hca).2.1]at j;exact j
    |s=>rw [(a0 hca).1]at j;exact j
    |b=>rw [(ax hca).1]at j;exact j
    |r=>rw [(ar hca).2.1]at j;exact j
    |e=>rw [hca,hc]at hcl;simp [jQ]at hcl
    |a=>
     obtain⟨_,n',x',_,_,r3,r4,_⟩:=aa hca;rw [r4,Heap.get_set]at j;split at j
     ·exact absurd j r3
     ·exact j
   exact⟨_,A F.lv h hf,hc,rfl,rfl,.inr (.inr ⟨rfl,n,x,q3,hf,j,rfl,q4⟩)⟩
  |e=>
   obtain⟨p1,A⟩:=ie hc;have hh:q.h=h:=by
    cases hca:q.c with
    |p=>exact(ap hca).2.1
    |l=>exact(al hca).2.1
    |s=>exact(a0 hca).1
    |b=>exact(ax hca).1
    |r=>rw [hca,hc]at hcl;simp [jQ]at hcl
    |e=>rw [hca,hc]at hcl;simp [jQ]at hcl
    |a=>rw [hca,hc]at hcl;simp [jQ]at hcl
   have:=A F.lv;rw [hh]at this;exact⟨_,this,hc,rfl,rfl,.inl ⟨rfl,rfl,hh⟩⟩
 obtain⟨a5,b9,b7,c2,c1,b6,c4,b5⟩:=eW X e1;have b0:dJ E f cf ops true ra a (F.app i.dst g).tm (F.app i.dst g).lv g.h=dJ E f cf ops true ra a F.tm (F.app i.dst g).lv g.h:=by
  refine tZ (fun t ht=>?_);rw [fS a5];rw [if_neg (fun e=>s3 t e ht)]
 have V:g.loc=none\/ ∃s cs,g.loc=some (s,cs)/\((g.c= .s/\∃c0,F.lv s=some c0) \/ (g.c= .b/\i.dst=some s/\F.lv s=none)):=by
  cases hc:g.c with
  |p=>exact .inl (b9 hc).1
  |l=>exact .inl (b7 hc).1
  |r=>exact .inl (c1 hc).1
  |e=>exact .inl (b6 hc).1
  |a=>exact .inl (b5 hc).1
  |s=>
   obtain⟨_,t,s,K,cs,_,_,h1,h2,_⟩:=c2 hc;exact .inr ⟨s,cs,h2,.inl ⟨rfl,h1⟩⟩
  |b=>
   obtain⟨_,d,cs,h1,h2,h3,_⟩:=c4 hc;exact .inr ⟨d,cs,h2,.inr ⟨rfl,h1,h3⟩⟩
 have a6: ∀k,(F.app i.dst g).lv k=match g.loc with|some (s,cs)=>if k=s then some cs else F.lv k|none=>F.lv k:=fun k=>iO a5 k
 have O:jQ q.c g.c=false:=by rw [e2];exact hcl
 have Y: ∀s,(∃cs,F.lv s=some cs)->g.c≠ .s->(F.app i.dst g).lv s=F.lv s:=by
  rintro s ⟨cs,hs⟩ a3;rw [a6];rcases V with G| ⟨s',cs',G,y|y⟩
  ·rw [G]
  ·exact absurd y.1 a3
  ·rw [G];simp only;rw [if_neg];rintro rfl;rw [y.2.2]at hs;cases hs
 obtain⟨z,g1,g2,g3,g4,g5⟩: ∃z,dJ E f cf ops true ra a F.tm (F.app i.dst g).lv g.h=some z/\z.c=q.c/\z.v=q.v/\z.loc=q.loc/\z.h=L.h:=by
  cases hc:q.c with
  |p=>
   obtain⟨p1,D,A⟩:=ap hc;refine⟨_,A _ _,hc,rfl,rfl,?_⟩;rcases e5 with⟨_,m,_⟩| ⟨_,m,j⟩| ⟨_,n,x,_,_,_,m,j⟩
   ·exact m
   ·show g.h=_;rw [m,j,D]
   ·show g.h=_;rw [m,j,D]
  |l=>
   obtain⟨p1,D,t,s,K,t1,t2,t3,A⟩:=al hc;refine⟨_,A _ _ (Y s t3 (fun e=>by rw [hc,e]at O;simp [jQ]at O)),hc,rfl,rfl,?_⟩;rcases e5 with⟨_,m,_⟩| ⟨_,m,j⟩| ⟨_,n,x,_,_,_,m,j⟩
   ·exact m
   ·show g.h=_;rw [m,j,D]
   ·show g.h=_;rw [m,j,D]
  |s=>
   obtain⟨D,t,s,K,cs,t1,t2,t3,t4,A⟩:=a0 hc;refine⟨_,A _ _ (Y s t3 (fun e=>by rw [hc,e]at O;simp [jQ]at O)),hc,rfl,rfl,?_⟩;rcases e5 with⟨_,m,_⟩| ⟨_,m,j⟩| ⟨_,n,x,_,_,_,m,j⟩
   ·exact m
   ·show g.h=_;rw [m,j,D]
   ·show g.h=_;rw [m,j,D]
  |b=>
   obtain⟨D,d,cs,t1,t2,t3,A⟩:=ax hc;have y:(F.app i.dst g).lv d=none:=by
    rw [a6];rcases V with G| ⟨s',cs',G,y|y⟩
    ·rw [G];exact t3
    ·rw [G];simp only;rw [if_neg]
     ·exact t3
     ·rintro rfl;obtain⟨c0,a9⟩:=y.2;rw [t3]at a9;cases a9
    ·rw [G];simp only;rw [if_neg]
     ·exact t3
     ·rintro rfl;exact s2 _ t1 y.2.1
   refine⟨_,A _ _ y,hc,rfl,rfl,?_⟩;rcases e5 with⟨_,m,_⟩| ⟨_,m,j⟩| ⟨_,n,x,_,_,_,m,j⟩
   ·exact m
   ·show g.h=_;rw [m,j,D]
   ·show g.h=_;rw [m,j,D]
  |r=>
   obtain⟨p1,D,A,p4⟩:=ar hc;rcases e5 with⟨q0,m,_⟩| ⟨_,m,j⟩| ⟨_,n,x,_,q5,_,m,j⟩
   ·rw [hc,q0]at hcl;simp [jQ]at hcl
   ·rw [m];exact⟨_,A _ h (jV _ _),hc,rfl,rfl,by show h=L.h;rw [j,D]⟩
   ·rw [m];refine⟨_,A _ _ ?_,hc,rfl,rfl,by show h.set n x=L.h;rw [j,D]⟩
    cases hid:kS a (aX E F.tm)with
    |none=>trivial
    |some id=>
     have:=p4 id hid;show(h.set n x).get id=h.get id;rw [Heap.get_set,if_neg (fun e=>this (by rw [e];exact q5))]
  |e=>
   obtain⟨p1,A⟩:=ae hc;rcases e5 with⟨q0,m,_⟩| ⟨_,m,j⟩| ⟨q0,_⟩
   ·rw [hc,q0]at hcl;simp [jQ]at hcl
   ·rw [m];exact⟨_,A _,hc,rfl,rfl,j.symm⟩
   ·rw [hc,q0]at hcl;simp [jQ]at hcl
  |a=>
   obtain⟨p1,n',x',D,A,p4,p5,p6⟩:=aa hc;rcases e5 with⟨q0,m,_⟩| ⟨_,m,j⟩| ⟨_,n,x,q4,q5,q6,m,j⟩
   ·rw [hc,q0]at hcl;simp [jQ]at hcl
   ·rw [m];exact⟨_,p6 _ h A,hc,rfl,rfl,by show h.set n' x'=L.h;rw [j,p5]⟩
   ·have a4:n'≠n:=by
     rintro rfl;rw [p5,Heap.get_set,if_pos rfl]at q6;exact p4 q6
    rw [m];refine⟨_,p6 _ (h.set n x) (by rw [Heap.get_set,if_neg a4];exact A),hc,rfl,rfl,?_⟩;show(h.set n x).set n' x'=L.h;rw [j,p5,Heap.set_comm _ _ _ a4]
 rw [<-b0]at g1;have a8:z.box=false:=(eW X g1).1;refine⟨g,z,e1,g1,e2,g2,?_,g5,g3⟩;refine FF.ext' (fun k=>?_) (fun k=>?_)
 ·rw [fS a8,fS a5,fS ib,fS ab,e3,g3]
  by_cases h1:a.dst=some k
  ·have h2:i.dst≠some k:=s2 k h1;simp [h1,h2]
  ·simp [h1]
 ·rw [iO a8,iO a5,iO ib,iO ab,e4,g4];rcases Z with G| ⟨s,cs,G,y⟩
  ·rw [G]
  ·rcases V with a1| ⟨s',cs',a1,R⟩
   ·rw [e4]at a1;rw [a1]
   ·rw [e4]at a1;rw [G,a1];simp only;have a4:s≠s':=by
     rintro rfl;rcases y with y|y<;>rcases R with R|R
     ·rw [y.1,R.1]at O;simp [jQ]at O
     ·obtain⟨c0,h0⟩:=y.2;rw [R.2.2]at h0;cases h0
     ·obtain⟨c0,h0⟩:=R.2;rw [y.2.2]at h0;cases h0
     ·exact s2 _ y.2.1 R.2.1
    by_cases h1:k=s
    ·subst h1;simp [a4]
    ·simp [h1]
theorem Zs{rs:Y10}{o:Oper}{j:Nat->Option TV}{lv:Nat->Option (Y14)}{h h2:Heap}{e:Ef}(m:dJ E f cf ops true rs o j lv h=some e)(l:e.c= .r){v:TV}(p:dR E o (aX E j) h2=some v)(g:e.v=some v):
  dJ E f cf ops true rs o j lv h2=some {e with h:=h2 } :=by
 cases rs with
 |none=>
  obtain⟨z,_,q,y⟩:=M4 (h2:=h2) m l;rw [q]at g;simp only [AB]at g;subst g;exact y p lv
 |some n=>
  exfalso;rcases zX m with rfl| ⟨v,ha,rfl⟩| ⟨v,x,ha,_,rfl⟩<;>cases l
theorem d8J(l:rV E cf){y z:Y10}{a i:Oper}{F:FF}{h:Heap}{j g:Ef}(D:Oper.apart ops.toArray a i=true)(X:dJ E f cf ops true y a F.tm F.lv h=some j)
  (hi:dJ E f cf ops true z i (F.app a.dst j).tm (F.app a.dst j).lv j.h=some g) (hac:j.c= .r) (hic:g.c= .e) (hsame:dJ E f cf ops true y a F.tm F.lv g.h=some {j with h:=g.h }):
  dJ E f cf ops true z i F.tm F.lv h=some g/\dJ E f cf ops true y a (F.app i.dst g).tm (F.app i.dst g).lv g.h=some {j with h:=g.h } /\
   (F.app i.dst g).app a.dst {j with h:=g.h } =(F.app a.dst j).app i.dst g:=by
 obtain⟨s1,s2,s3⟩:=Oper.apart_spec D;obtain⟨m,ap,al,V,ar,ae,ax,aa⟩:=eW l X;obtain⟨A,ar2,_,_⟩:=ar hac;have L:(F.app a.dst j).lv=F.lv:=funext fun k=>by rw [iO m,A]
 have K:dJ E f cf ops true z i (F.app a.dst j).tm (F.app a.dst j).lv j.h=dJ E f cf ops true z i F.tm (F.app a.dst j).lv j.h:=by
  refine tZ (fun t R=>?_);rw [fS m];rw [if_neg (fun e=>s1 t e R)]
 rw [K,L,ar2]at hi;obtain⟨p,ip,il,Z,ir,Y,ix,ia⟩:=eW l hi;obtain⟨q,_⟩:=Y hic;have O:(F.app i.dst g).lv=F.lv:=funext fun k=>by rw [iO p,q]
 have G:dJ E f cf ops true y a (F.app i.dst g).tm (F.app i.dst g).lv g.h=dJ E f cf ops true y a F.tm (F.app i.dst g).lv g.h:=by
  refine tZ (fun t R=>?_);rw [fS p];rw [if_neg (fun e=>s3 t e R)]
 refine⟨hi,by rw [G,O];exact hsame,FF.ext' (fun k=>?_) (fun k=>?_)⟩
 ·rw [fS (e:= {j with h:=g.h }) m,fS p,fS p,fS m]
  by_cases h1:a.dst=some k
  ·have h2:i.dst≠some k:=s2 k h1;simp [h1,h2]
  ·simp [h1]
 ·rw [iO (e:= {j with h:=g.h }) m,iO p,iO p,iO m,q]
end
structure FR(M:Meta)(h:Heap)(w:World)(B n:Nat)(F:FF)(a:Act)(pb:Nat->Nat):Prop where
 size:n<=a.tmps.size
 tm: ∀t tv,F.tm t=some tv->TR M pb tv (a.tmps.getD t undef)
 loc: ∀s cs,F.lv s=some cs->B<=pb s/\¬Wr M h (pb s)/\(∀o,M.im (pb s) o=none)/\∃rc el fz,w.heap[pb s]?=some (.cells rc el fz)/\(∀i,i<rc.size->w.frozen? ⟨pb s,i,none⟩=false)/\eG M cs rc.toList
 one: ∀s s' cs cs',F.lv s=some cs->F.lv s'=some cs'->pb s=pb s'->s=s'
 addr: ∀k s off,F.tm k=some (.l s off)-> ∃cs,F.lv s=some cs
def Gu(E:Env)(M:Meta):Prop:= ∀g cs,E.G g=some cs->VR M.pure (.vref cs 0) (.pointer (some ⟨g,0,none⟩))
theorem Ext.pures{M M':Meta}(j:Ext M M'):Ext M.pure M'.pure:=⟨AG _,fun _ _ e=>(by cases e),j.im,j.bsz,fun i g=>absurd g (CF i),fun i g=>absurd g (CF i)⟩
theorem Ext.pure(M:Meta):Ext M.pure M:=⟨BE _,fun _ _ e=>(by cases e),fun _ _ _ e=>e,fun _ _ e=>e,fun i g=>absurd g (CF i),fun i g=>absurd g (CF i)⟩
theorem Gu.mono{E:Env}{M M':Meta}(j:Ext M M')(h:Gu E M):Gu E M':=fun g cs e=>(h g cs e).mono j.pures
def Gs(E:Env)(cf:FuncId->Y14->Heap->Option (IV×Heap)):Prop:=
 ∀ g xs h v h', cf g xs h = some (v, h') → (∃ fn, E.P.funcs[g]? = some fn ∧ fn.body.isNone = false ∧ (fn.name == "runtime.NumGoroutine") = false) ∧ ∀ M w rs, Inv M h w → Gu E M → cO M xs rs →
  Calls E.P g rs.toArray w fun e w'=> ∃r M',e= .returned r/\VR M' v r/\Inv M' h' w'/\Pres w.heap.size M h w M' h' w'
section
variable {E:Env} {M M':Meta} {h h':Heap} {w w':World} {B n:Nat} {F:FF} {a:Act} {pb:Nat->Nat}
theorem TR.mono(j:Ext M M'){tv:TV}{r:Value}(g:TR M pb tv r):TR M' pb tv r:=by
 cases tv with
 |v x=>exact VR.mono j g
 |l s off=>exact g
 |u=>exact g
theorem Us(m:Gu E M)(l:FR M h w B n F a pb): ∀x tv,aX E F.tm x=some tv->TR M pb tv (a.eval x):=by
 intro x tv j
 cases x with
 |tmp t=>exact l.tm t tv j
 |const v=>
  simp only [aX]at j;obtain⟨y,h1,h2⟩:=AE.1 j;subst h2;exact(wF (M:=M) h1).1
 |global g=>
  simp only [aX]at j;obtain⟨y,h1,h2⟩:=AE.1 j;subst h2;exact(m g y h1).mono (Ext.pure M)
 |func g=>
  simp [aX]at j;subst j;exact T8 (cO.nil M) (cO.nil M)
theorem FR.step(g:FR M h w B n F a pb)(j:Pres w.heap.size M h w M' h' w'):FR M' h' w' B n F a pb where
 size:=g.size
 tm:=fun t tv e=>(g.tm t tv e).mono j.ext
 loc:=fun s cs e=>by
  obtain⟨h1,h2,h3,rc,l,fz,h4,m,p⟩:=g.loc s cs e;obtain⟨k1,k2,k3⟩:=j.keep (pb s) (cP h4) h2;exact⟨h1,k2,fun o=>(k3 o).trans (h3 o),rc,l,fz,k1.trans h4,fun i q=>(mD k1).trans (m i q),p.mono j.ext⟩
 one:=g.one
 addr:=g.addr
theorem getD_set(t:Array Value)(d k:Nat)(r:Value)(hd:d<t.size):(t.setIfInBounds d r).getD k undef=if k=d then r else t.getD k undef:=by
 simp only [CQ,CP]
 by_cases hk:k=d
 ·subst hk;simp [hd]
 ·rw [if_neg (fun e=>hk e.symm),if_neg hk]
theorem FR.put(j:FR M h w B n F a pb){d:Option Tmp}(hd: ∀t,d=some t->t<n){v:Option TV}{r:Value}(y: ∀tv,v=some tv->TR M pb tv r)(m: ∀s g,v=some (.l s g)-> ∃cs,F.lv s=some cs):FR M h w B n (F.put d v) (a.put d r) pb:=by
 cases d with
 |none=>exact j
 |some t=>
  have q:=hd t rfl;have p:=j.size;refine⟨by simpa [Act.put]using j.size,fun k tv e=>?_,j.loc,j.one,fun k s g e=>?_⟩
  case refine_2=>
   simp only [FF.put]at e
   by_cases hk:k=t
   ·rw [if_pos hk]at e;exact m s g e
   ·rw [if_neg hk]at e;exact j.addr k s g e
  simp only [FF.put]at e;simp only [Act.put];rw [getD_set _ _ _ _ (BS q p)]
  by_cases hk:k=t
  ·rw [if_pos hk]at e⊢;exact y tv e
  ·rw [if_neg hk]at e⊢;exact j.tm k tv e
theorem Inv.apart(g:Inv M h w){b:Nat}(m: ¬Wr M h b)(r: ∀o,M.im b o=none)(l: ∀k,k≠b->k<w.heap.size->w'.heap[k]?=w.heap[k]?)(y:w.heap.size<=w'.heap.size):Inv M h w' where
 nid:=g.nid
 fresh:=g.fresh
 freshl:=g.freshl
 cells:=fun id cs e=>by
  obtain⟨c,rc,h1,h2,h3⟩:=g.cells id cs e;have j:c≠b:=fun e'=>m ⟨id,by simp [Wb,e,h1,e']⟩
  exact⟨c,rc,h1,h2.keep (l c j h2.lt) rfl,h3⟩
 tips:=fun id n e=>by
  obtain⟨h0,c,e',rc,h1,h2,h3⟩:=g.tips id n e;have j:c≠b:=fun e'=>m ⟨id,by simp [Wb,e,h1,e']⟩
  exact⟨h0,c,e',rc,h1,h2.keep (l c j h2.lt) rfl,h3⟩
 maps:=fun id q e=>by
  obtain⟨c,ents,p,h1,h2,h3⟩:=g.maps id q e;have j:c≠b:=fun e'=>m ⟨id,by simp [Wb,e,h1,e']⟩
  exact⟨c,ents,p,h1,(l c j (cP h2)).trans h2,h3⟩
 im:=fun c o v e=>by
  have j:c≠b:=fun e'=>by subst e';rw [r]at e;simp at e
  rw [oU (l c j (g.im_lt e))];exact g.im c o v e
 bsz:=fun c n e=>by have:=g.bsz c n e;omega
 one:=g.one
 resv:=g.resv
structure Nxt(E:Env)(B n:Nat)(M:Meta)(h:Heap)(w:World)(a:Act)(F':FF)(h':Heap)(a':Act)(w':World)(M':Meta)(pb':Nat->Nat):Prop where
 fr:FR M' h' w' B n F' a' pb'
 inv:Inv M' h' w'
 glob:Gu E M'
 pres:Pres B M h w M' h' w'
 defers:a'.defers=a.defers
theorem Bn{ops:List Oper}{o:Oper}{b:Bool}(A:FR M h w B n F a pb)(g:dK ops F.tm o=some b):Region.wanted o (yielded ops.toArray a.tmps)=b:=by
 unfold dK at g;unfold Region.wanted
 cases hg:o.guard with
 |none=>simp [hg]at g;simp [g]
 |some q=>
  obtain⟨j,c⟩:=q;simp only [hg]at g⊢;split at g
  case h_2=>simp at g
  rename_i d hd;split at g
  case h_3=>simp at g
  case h_2=>
   rename_i p;simp at g;subst g;have l:a.tmps.getD d undef=undef:=A.tm d _ p;have z:yielded ops.toArray a.tmps j=none:=by
    simp only [yielded,DV,hd,Option.bind_some];rw [CQ]at l
    cases hq:a.tmps[d]? with
    |none=>rfl
    |some y=>rw [hq]at l;simp at l;subst l;rfl
   rw [z];rfl
  rename_i x p;simp at g;subst g;have l:VR M (.bool x) (a.tmps.getD d undef):=A.tm d _ p;generalize hr:a.tmps.getD d undef=r at l
  cases l
  have m:a.tmps[d]?=some (.bool x):=by
   rw [CQ]at hr
   cases hq:a.tmps[d]? with
   |none=>rw [hq]at hr;simp [undef]at hr
   |some y=>rw [hq]at hr;simp at hr;rw [hr]
  have z:yielded ops.toArray a.tmps j=some x:=by
   simp only [yielded,DV,hd,Option.bind_some,m]
  rw [z]
  cases x<;>cases c<;>rfl
theorem d0A{f:FuncId}{cf:FuncId->Y14->Heap->Option (IV×Heap)}{ops:List Oper}{draw:Bool}{o:Oper}{e:Ef}(d6:Gs E cf)(hG:Gu E M)(hI:Inv M h w)(G:FR M h w B n F a pb)(hB:B<=w.heap.size)
  (hd: ∀t,o.dst=some t->t<n) (he:vU E f cf ops draw o F.tm F.lv h=some e) (Q:Exit->Act->World->Prop) (K:Act->World->Prop)
  (hK: ∀a' w' M' pb',Nxt E B n M h w a (F.app o.dst e) e.h a' w' M' pb'->K a' w'):
  if Region.wanted o (yielded ops.toArray a.tmps)then o.wp E.P a w K Q\/ (o.asks E.P a w/\LetsOut Q)else K (a.put o.dst undef) w:=by
 have hev:=Us hG G;have A: ∀(d:Option Tmp)(r:Value),(a.put d r).defers=a.defers:=fun d r=>by cases d<;>rfl
 unfold vU at he
 cases hw:dK ops F.tm o with
 |none=>simp [hw]at he
 |some b=>
  rw [Bn G hw];simp only [hw]at he
  cases b with
  |false=>
   simp only [AB]at he;subst he;simp only [AU,if_false];refine hK _ _ M pb ⟨?_,hI,hG,Pres.refl _ _ _ _,A _ _⟩;exact G.put hd (fun tv e=>by simp at e;subst e;exact rfl) (fun s m e=>by simp at e)
  |true=>
   simp only at he;simp only [if_true];refine .inl ?_;unfold Oper.wp
   unfold eB at he
   cases hp:eH E f o (aX E F.tm)with
   |some q=>
    obtain⟨v,bx⟩:=q;simp only [hp]at he;rcases c0H (E:=E) (M:=M) (w:=w) (pb:=pb) hI.im hev hp with⟨rfl,r,hr,hv⟩| ⟨cs,d,rc,el,rfl,O,rfl,hr,hc⟩| ⟨rfl,c6⟩
    ·simp only [AB]at he;subst he;rw [hr];refine hK _ _ M pb ⟨?_,hI,hG,Pres.refl _ _ _ _,A _ _⟩;exact G.put hd (fun tv e=>by simp at e;subst e;exact hv) (fun s m e=>by
      simp only [AB]at e;subst e;obtain⟨x,o',R⟩:=b0D hp
      cases x with
      |tmp t=>exact G.addr t s o' R
      |const c=>simp only [aX]at R;obtain⟨y,_,h2⟩:=AE.1 R;cases h2
      |global g=>simp only [aX]at R;obtain⟨y,_,h2⟩:=AE.1 R;cases h2
      |func g=>simp [aX]at R)
    ·simp only [O]at he;have c3: ∃c bb,e=⟨c,some (.l d 0),some (d,cs),bb,h⟩/\(bb=true\/F.lv d=none):=by
      split at he
      ·split at he
       ·rename_i L;simp only [AB]at he;exact⟨_,_,he.symm,.inr L⟩
       ·simp at he
      ·simp only [AB]at he;exact⟨_,_,he.symm,.inl rfl⟩
     obtain⟨c,bb,rfl,d5⟩:=c3;have c0: ∀t tv,(F.app (some d) ⟨c,some (.l d 0),some (d,cs),bb,h⟩).tm t=some tv->(t=d/\tv= .l d 0) \/ (t≠d/\F.tm t=some tv/\tC d tv=true):=by
      intro t tv V
      by_cases D:t=d
      ·left
       refine⟨D,?_⟩;subst D
       cases bb with
       |true=>
        simp only [FF.app,if_true,FF.put,FF.lset,FF.clr,AB]at V;exact V.symm
       |false=>
        simp only [FF.app,AU,if_false,if_true,FF.put,FF.lset,AB]at V;exact V.symm
      ·right
       refine⟨D,?_⟩
       cases bb with
       |true=>
        simp only [FF.app,if_true,FF.put,FF.lset,FF.clr,if_neg D]at V;split at V
        case h_2=>simp at V
        rename_i x R;split at V
        case isFalse=>simp at V
        rename_i b6;simp only [AB]at V;subst V;exact⟨R,b6⟩
       |false=>
        simp only [FF.app,AU,if_false,FF.put,FF.lset,if_neg D]at V;refine⟨V,?_⟩
        cases tv with
        |v y=>rfl
        |u=>rfl
        |l s m=>
         obtain⟨f4,h2⟩:=G.addr t s m V;have hn:=d5.resolve_left JH;have:s≠d:=fun e=>by subst e;rw [hn]at h2;cases h2
         simpa [tC]using this
     have L: ∀s,(F.app (some d) ⟨c,some (.l d 0),some (d,cs),bb,h⟩).lv s=if s=d then some cs else F.lv s:=by
      intro s
      cases bb<;>simp [FF.app,FF.put,FF.lset,FF.clr]
     rw [hr];simp only [Oper.upon];have nb:=NewBlk.alloc w (.cells rc el);have c7: ¬Wr M h w.heap.size:=by
      rintro⟨id,e⟩;have:=hI.wb_lt e;omega
     have a8: ∀m,M.im w.heap.size m=none:=by
      intro m
      cases e:M.im w.heap.size m with
      |none=>rfl
      |some v=>have:=hI.im_lt e;omega
     have b2:Inv M h (w.alloc (.cells rc el)):=hI.apart c7 a8 (fun k _ a6=>nb.old k a6) (by rw [nb.size];omega);refine hK _ _ M (fun s=>if s=d then w.heap.size else pb s) ⟨?_,b2,hG,⟨Ext.refl M,by rw [nb.size];omega,rfl,rfl,rfl,fun k D hn=>⟨nb.old k JF,hn,fun _=>rfl⟩⟩,A _ _⟩;have e8:=G.size;have d7:=hd d O;refine⟨?_,?_,?_,?_,?_⟩
     ·rw [O];simpa [Act.put]using G.size
     ·intro t tv V;rw [O]at V⊢;simp only [Act.put];rw [getD_set _ _ _ _ (BS d7 e8)];rcases c0 t tv V with⟨D,rfl⟩| ⟨D,R,b6⟩
      ·rw [if_pos D];simp [TR]
      ·rw [if_neg D];have:=G.tm t tv R
       cases tv with
       |v y=>exact this
       |l s m=>
        have e6:s≠d:=by simpa [tC]using b6
        simpa [TR,e6]using this
       |u=>exact this
     ·intro s cs' es;rw [O,L]at es
      by_cases D:s=d
      ·rw [if_pos D]at es⊢;simp only [AB]at es;subst es;exact⟨hB,c7,a8,rc,el,(0,0),nb.new,fun i hi=>jJ nb.new (.inl (AG _)) i hi,hc⟩
      ·rw [if_neg D]at es⊢;obtain⟨h1,h2,h3,a3,a9,b0,h4,h5,h6⟩:=G.loc s cs' es;have a6:=cP h4;exact⟨h1,h2,h3,a3,a9,b0,(nb.old _ a6).trans h4,fun i hi=>(mD (nb.old _ a6)).trans (h5 i hi),h6⟩
     ·intro s s' c1 c2 e1 e2 e3;rw [O,L]at e1 e2
      by_cases D:s=d
      ·by_cases hk':s'=d
       ·rw [D,hk']
       ·rw [if_neg hk']at e2 e3;rw [if_pos D]at e3;obtain⟨_,_,_,a3,a9,b0,h4,_⟩:=G.loc s' c2 e2;have:=cP h4;omega
      ·rw [if_neg D]at e1 e3
       by_cases hk':s'=d
       ·rw [if_pos hk']at e3;obtain⟨_,_,_,a3,a9,b0,h4,_⟩:=G.loc s c1 e1;have:=cP h4;omega
       ·rw [if_neg hk']at e2 e3;exact G.one s s' c1 c2 e1 e2 e3
     ·intro k s m e;rw [O]at e⊢;rw [L]
      by_cases D:s=d
      ·exact⟨cs,by rw [if_pos D]⟩
      ·rw [if_neg D];rcases c0 k _ e with⟨_,c4⟩| ⟨_,R,_⟩
       ·simp at c4;exact absurd c4.1 D
       ·exact G.addr k s m R
    ·simp only [AB]at he;subst he;obtain⟨w',M',x,r,rfl,hr,h2,g1,g2⟩:=c6 h hI;rw [hr];have a0:=G.step g2;refine hK _ _ M' pb ⟨?_,g1,hG.mono g2.ext,g2.mono hB,A _ _⟩;exact a0.put hd (fun tv e=>by simp at e;subst e;exact h2) (fun s m e=>by simp at e)
   |none=>
    simp only [hp]at he
    cases hl:gB E o (aX E F.tm) F.lv with
    |some v=>
     simp only [hl,AB]at he;subst he;obtain⟨t,ad,s,m,X,R⟩:=Aa hl;simp only [gB,X,R]at hl;split at hl
     case h_2=>simp at hl
     rename_i cs L;obtain⟨y,h1,h2⟩:=AE.1 hl;subst h2;obtain⟨_,_,_,rc,el,fz,h4,h5,h6⟩:=G.loc s cs L;have a2:a.eval ad= .pointer (some ⟨pb s,m,none⟩):=hev _ _ R;obtain⟨r,h7,h8⟩:=xS (P:=E.P) (w:=w) (b:=pb s) (base:=0) h6 (fun i hi=>by simp [World.cell?,h4,show i<rc.size by simpa using hi]) h1;have hr:(execOp a.eval o).run E.P w= .ok (.value r) w:=by
      simp only [execOp,X,a2,Instr.loadAt,Instr.sureAddr];exact bY _ _ (by simpa using h7)
     rw [hr];refine hK _ _ M pb ⟨?_,hI,hG,Pres.refl _ _ _ _,A _ _⟩;exact G.put hd (fun tv e=>by simp at e;subst e;exact h8) (fun s m e=>by simp at e)
    |none=>
     simp only [hl]at he
     cases hs:iG E o (aX E F.tm) F.lv with
     |some q=>
      obtain⟨s0,cs'⟩:=q;simp only [hs,AB]at he;subst he;obtain⟨t,ad,x,s,m,X,R⟩:=wJ hs;simp only [iG,X,R]at hs;split at hs
      case h_2=>simp at hs
      rename_i s' f2 v' c5 e9;simp only [AB,TV.l.injEq]at c5;obtain⟨rfl,rfl⟩:=c5;split at hs
      case h_2=>simp at hs
      rename_i cs L;obtain⟨y,h1,h2⟩:=AE.1 hs;simp only [BT]at h2;obtain⟨rfl,rfl⟩:=h2;obtain⟨l1,l2,l3,rc,el,fz,h4,h5,h6⟩:=G.loc s cs L;have a2:a.eval ad= .pointer (some ⟨pb s,m,none⟩):=hev _ _ R;have d4:eG M cs (rc.toList.take cs.length):=by rw [AM (by have:=h6.len;simp at this⊢;omega)];exact h6
      obtain⟨a3,s1,s2,s3,s4,s5,s6⟩:=Kr (P:=E.P) d4 h4 h5 (bD hev e9) h1;have hr:(execOp a.eval o).run E.P w= .ok .skip (w.setCells (pb s) m (a.eval x).cells.toList):=by
       simp only [execOp,X,a2,Instr.storeAt,Instr.sureAddr];exact Dh _ _ (by simpa using s1)
      rw [hr];simp only [Oper.upon];have a1:=fun k (D:k≠pb s)=>fK (pb s) (a.eval x).cells.toList m w k D
      have Y:=fY (pb s) (a.eval x).cells.toList m w;have e7:=fZ (pb s) (a.eval x).cells.toList m w;have a7: ∀c j,(w.setCells (pb s) m (a.eval x).cells.toList).frozen? ⟨c,j,none⟩=w.frozen? ⟨c,j,none⟩:=fun c j=>World.frozen?_setCells _ _ _ _ _
      have b2:Inv M h (w.setCells (pb s) m (a.eval x).cells.toList):=hI.apart l2 l3 (fun k D _=>a1 k D) JF;have b1:=G.put (d:=o.dst) (v:=none) (r:=undef) hd (fun tv e=>by simp at e) (fun s m e=>by simp at e);have c0:((F.put o.dst none).lset s y).tm=(F.put o.dst none).tm:=rfl;have Z:(F.put o.dst none).lv=F.lv:=by cases o.dst<;>rfl
      refine hK _ _ M pb ⟨?_,b2,hG,⟨Ext.refl M,JF,Y.1,Y.2.1,Y.2.2,fun k D hn=>⟨a1 k JF,hn,fun _=>rfl⟩⟩,A _ _⟩;refine⟨b1.size,fun t tv V=>b1.tm t tv V,fun z cz ez=>?_,fun z z' c1 c2 e1 e2 e3=>?_,fun k z c9 e=>?_⟩
      case refine_3=>
       obtain⟨cz,hz⟩:=b1.addr k z c9 e;rw [Z]at hz;simp only [FF.app,AU,if_false,FF.lset,Z]
       by_cases hzs:z=s
       ·exact⟨_,if_pos hzs⟩
       ·exact⟨cz,by rw [if_neg hzs];exact hz⟩
      ·simp only [FF.app,AU,if_false,FF.lset,Z]at ez
       by_cases hz:z=s
       ·subst hz;rw [if_pos rfl]at ez;simp only [AB]at ez;subst ez;refine⟨l1,l2,l3,a3,el,fz,s2,fun i hi=>by rw [a7];exact h5 i JF,?_⟩;rw [AM (by have:=h6.len;simp at this⊢;omega)]at s5;exact s5
       ·rw [if_neg hz]at ez;obtain⟨k1,k2,k3,f1,d0,d3,k4,k5,k6⟩:=G.loc z cz ez;have e4:pb z≠pb s:=fun e=>hz (G.one z s cz cs ez L e)
        exact⟨k1,k2,k3,f1,d0,d3,(a1 _ e4).trans k4,fun i hi=>by rw [a7];exact k5 i hi,k6⟩
      ·simp only [FF.app,AU,if_false,FF.lset,Z]at e1 e2;have g1: ∃c,F.lv z=some c:=by
        by_cases hz:z=s
        ·exact⟨cs,hz▸L⟩
        ·rw [if_neg hz]at e1;exact⟨_,e1⟩
       have g2: ∃c,F.lv z'=some c:=by
        by_cases hz:z'=s
        ·exact⟨cs,hz▸L⟩
        ·rw [if_neg hz]at e2;exact⟨_,e2⟩
       obtain⟨d1,g1⟩:=g1;obtain⟨d2,g2⟩:=g2;exact G.one z z' d1 d2 g1 g2 e3
     |none=>
      simp only [hs]at he
      cases hr:dR E o (aX E F.tm) h with
      |some v=>
       simp only [hr,AB]at he;subst he;obtain⟨x,r,rfl,h1,h2⟩:=c0L (E:=E) (pb:=pb) hI hev hr;rw [h1];refine hK _ _ M pb ⟨?_,hI,hG,Pres.refl _ _ _ _,A _ _⟩;exact G.put hd (fun tv e=>by simp at e;subst e;exact h2) (fun s m e=>by simp at e)
      |none=>
       simp only [hr]at he
       cases hee:gS E f o (aX E F.tm) h with
       |some q=>
        obtain⟨v,h'⟩:=q;simp only [hee,AB]at he;subst he;obtain⟨w',M',g1,g2,g3⟩:=Uo (E:=E) (pb:=pb) hI hev hee;have a0:=G.step g2;rcases g3 with⟨x,r,rfl,h1,h2⟩| ⟨rfl,h1⟩
        ·rw [h1];refine hK _ _ M' pb ⟨?_,g1,hG.mono g2.ext,g2.mono hB,A _ _⟩;exact a0.put hd (fun tv e=>by simp at e;subst e;exact h2) (fun s m e=>by simp at e)
        ·rw [h1];refine hK _ _ M' pb ⟨?_,g1,hG.mono g2.ext,g2.mono hB,A _ _⟩;exact a0.put hd (fun tv e=>by simp at e) (fun s m e=>by simp at e)
       |none=>
        simp only [hee]at he
        cases hcl:dO o (aX E F.tm)with
        |none=>simp [hcl]at he
        |some q=>
         obtain⟨g,xs⟩:=q;simp only [hcl]at he;split at he
         case h_2=>simp at he
         rename_i v h' b5;simp only [AB]at he;subst he;unfold dO at hcl;split at hcl
         case h_2=>simp at hcl
         rename_i x args f3 X;split at hcl
         case h_2=>simp at hcl
         rename_i g' p q' f5 R f0;simp only [AB,BT]at hcl;obtain⟨rfl,rfl⟩:=hcl;have d9:VR M (.func (.func g') p q') (a.eval x):=hev _ _ R;obtain⟨rp,rq,e5,vp,vq⟩:=c2T d9;have b3:=mT hev f0;obtain⟨⟨fn,d8,b4,b7⟩,a4⟩:=d6 g' _ _ _ _ b5;have hc:=a4 M w (rp++args.toList.map a.eval++rq) hI hG ((vp.append b3).append vq);have c8:(execOp a.eval o).run E.P w=(callFunc g' (rp++args.toList.map a.eval++rq).toArray).run E.P w:=by
          simp only [execOp,X,resolve,e5,Deferred.ofValue,AQ,AT,AI,invoke]
          congr 2
          apply EN;simp
         have a5:(callFunc g' (rp++args.toList.map a.eval++rq).toArray).run E.P w= .ok (.enter g' (rp++args.toList.map a.eval++rq).toArray) w:=by
          simp only [callFunc,AQ,run_program,AI,d8,b7,b4,AU,if_false,AT]
         rw [c8,a5];simp only [Oper.upon];refine Calls.mono hc (fun e w' b9=>?_);obtain⟨r,M',rfl,h1,h2,h3⟩:=b9;have a0:=G.step h3;refine hK _ _ M' pb ⟨?_,h2,hG.mono h3.ext,h3.mono hB,A _ _⟩;exact a0.put hd (fun tv e=>by simp at e;subst e;exact h1) (fun s m e=>by simp at e)
theorem Xe{f:FuncId}{cf:FuncId->Y14->Heap->Option (IV×Heap)}{ops:List Oper}{draw:Bool}{rs:Y10}{o:Oper}{e:Ef}(D:Gs E cf)(y:Gu E M)(A:Inv M h w)(m:FR M h w B n F a pb)(hB:B<=w.heap.size)
  (hd: ∀t,o.dst=some t->t<n) (he:dJ E f cf ops draw rs o F.tm F.lv h=some e) (Q:Exit->Act->World->Prop) (K:Act->World->Prop)
  (hK: ∀a' w' M' pb',Nxt E B n M h w a (F.app o.dst e) e.h a' w' M' pb'->K a' w'):
  if Region.wanted o (yielded ops.toArray a.tmps)then o.wp E.P a w K Q\/ (o.asks E.P a w/\LetsOut Q)else K (a.put o.dst undef) w:=by
 cases rs with
 |none=>exact d0A D y A m hB hd he Q K hK
 |some k=>
  have hev:=Us y m;have j: ∀(d:Option Tmp)(r:Value),(a.put d r).defers=a.defers:=fun d r=>by cases d<;>rfl
  unfold dJ at he
  cases hw:dK ops F.tm o with
  |none=>simp [hw]at he
  |some b=>
   rw [Bn m hw];simp only [hw]at he
   cases b with
   |false=>
    simp only [AB]at he;subst he;simp only [AU,if_false];refine hK _ _ M pb ⟨?_,A,y,Pres.refl _ _ _ _,j _ _⟩;exact m.put hd (fun tv e=>by simp at e;subst e;exact rfl) (fun s z e=>by simp at e)
   |true=>
    simp only at he;simp only [if_true];refine .inl ?_;unfold Oper.wp
    cases ha:H7 E f o (aX E F.tm) k with
    |none=>simp [ha]at he
    |some q=>
     obtain⟨v,x⟩:=q;simp only [ha]at he;have g: ∃c h',e=⟨c,v,none,false,h'⟩/\Nj E M h w o a.eval v h':=by
      cases x with
      |none=>
       simp only [AB]at he;exact⟨_,_,he.symm,b7X (pb:=pb) A hev ha⟩
      |some x=>
       simp only at he;split at he
       case h_2=>cases he
       rename_i hf;simp only [AB]at he;exact⟨_,_,he.symm,c6N (pb:=pb) A hev hf ha⟩
     obtain⟨c,h',rfl,g⟩:=g;obtain⟨w',M',G,l,L⟩:=g;have p:=m.step l;rcases L with⟨x,r,rfl,h1,h2⟩| ⟨rfl,h1⟩
     ·rw [h1];refine hK _ _ M' pb ⟨?_,G,y.mono l.ext,l.mono hB,j _ _⟩;exact p.put hd (fun tv e=>by simp at e;subst e;exact h2) (fun s z e=>by simp at e)
     ·rw [h1];refine hK _ _ M' pb ⟨?_,G,y.mono l.ext,l.mono hB,j _ _⟩;exact p.put hd (fun tv e=>by simp at e) (fun s z e=>by simp at e)
end
theorem jO(m b:Nat):kJ m b=true ↔ ∀k,m.testBit k=true->b.testBit k=true:=by
 unfold kJ
 rw [beq_iff_eq]
 constructor
 ·intro h k g;rw [<-h,Nat.testBit_and]at g;simp at g;exact g.2
 ·intro h;apply Nat.eq_of_testBit_eq;intro k;rw [Nat.testBit_and]
  cases hm:m.testBit k with
  |false=>simp
  |true=>simp [h k hm]
theorem lX(i k:Nat):(bit i).testBit k=decide (i=k):=by
 unfold bit
 rw [Nat.testBit_two_pow]
theorem Zm(m:Met){c g:Cls}(i:Nat)(h:jQ c g=true):((m.add c i).chk g).testBit i=true:=by
 cases c<;>cases g<;>first| (simp [jQ]at h;done)|simp [Met.add,Met.chk,lX]
section
variable {E:Env} {f:FuncId} {cf:FuncId->Y14->Heap->Option (IV×Heap)} {ops:List Oper} {bef:Nat->Nat}
def X7(m g:Met):Prop:=(∀k,g.e.testBit k=true->m.e.testBit k=true)/\(∀k,g.r.testBit k=true->m.r.testBit k=true)/\(∀k,g.s.testBit k=true->m.s.testBit k=true)/\(∀k,g.l.testBit k=true->m.l.testBit k=true)/\(∀k,g.a.testBit k=true->m.a.testBit k=true)
def sD(j g:Pd):Prop:= ∀p'∈g,∃p∈j,p.1=p'.1/\∀h,p.2 h=true->p'.2 h=true
theorem X7.of_add(m:Met)(c:Cls)(i:Nat):X7 (m.add c i) m:=by
 cases c<;>refine⟨fun k g=>?_,fun k g=>?_,fun k g=>?_,fun k g=>?_,fun k g=>?_⟩<;>simp [Met.add,g]
theorem X7.add{m q:Met}(h:X7 m q)(c:Cls)(i:Nat):X7 (m.add c i) (q.add c i):=by
 obtain⟨h1,h2,h3,h4,j⟩:=h;have g: ∀a b:Nat,(∀k,b.testBit k=true->a.testBit k=true)-> ∀k,(b|||bit i).testBit k=true->(a|||bit i).testBit k=true:=by
  intro a b p k l;rw [FV,CJ]at l⊢;rcases l with l|l
  ·exact .inl (p k l)
  ·exact .inr l
 cases c
 ·exact⟨h1,h2,h3,h4,j⟩
 ·exact⟨h1,h2,h3,g _ _ h4,j⟩
 ·exact⟨h1,h2,g _ _ h3,h4,j⟩
 ·exact⟨h1,g _ _ h2,h3,h4,j⟩
 ·exact⟨g _ _ h1,h2,h3,h4,j⟩
 ·exact⟨h1,h2,h3,h4,j⟩
 ·exact⟨h1,h2,h3,h4,g _ _ j⟩
theorem X7.chk{m l:Met}(h:X7 m l)(c:Cls){b:Nat}(j:kJ (m.chk c) b=true):kJ (l.chk c) b=true:=by
 obtain⟨h1,h2,h3,h4,p⟩:=h;rw [jO]at j⊢;intro k g;apply j
 cases c
 ·exact g
 ·exact h3 k g
 ·simp only [Met.chk,FV,CJ]at g⊢;rcases g with g|g
  ·exact .inl (h3 k g)
  ·exact .inr (h4 k g)
 ·exact h1 k g
 ·simp only [Met.chk,FV,CJ]at g⊢;rcases g with(g|g)|g
  ·exact .inl (.inl (h1 k g))
  ·exact .inl (.inr (h2 k g))
  ·exact .inr (p k g)
 ·exact g
 ·exact h1 k g
theorem a1J{p:List Nat}{rs:Nat->Y10}{m l:Met}{b:Nat}{id:Y10}{c:Cls}(r:X7 m l)(g:Fo p rs m b id c=true):Fo p rs l b id c=true:=by
 unfold Fo at g⊢;split at g
 ·simp only [BQ,CJ,CC]at g⊢;intro j q;rcases g j q with z|z|z
  ·exact .inl z
  ·refine .inr (.inl ?_)
   cases hq:l.a.testBit j with
   |false=>rfl
   |true=>rw [r.2.2.2.2 j hq]at z;cases z
  ·exact .inr (.inr z)
 ·rfl
theorem Kg: ∀{l:List Nat}{k j n:Nat},Sb k l j=some n->j∈l
 | [],_,_,_,h=>by cases h
 |i::r,k,j,n,h=>by
  unfold Sb at h;split at h
  ·rename_i e;rw [AN e];exact AY
  ·exact BK _ (Kg h)
theorem a2G{m A:Met}{D j:Pd}{b:Nat}{e e':Ef}(y:X7 m A)(K:sD D j)(q:e'.c=e.c)(G:e.c= .e->e'.h=e.h)(g:Su m D b e=true):Su A j b e'=true:=by
 unfold Su at g⊢
 cases hec:e.c with
 |e=>
  rw [hec]at g q;rw [q,G hec];simp only [AD,BQ,CJ]at g⊢;refine⟨(jO _ _).2 fun k r=>(jO _ _).1 g.1 k ?_,fun L l=>?_⟩
  ·rw [FV,CJ]at r⊢;exact r.imp (y.1 k) (y.2.2.2.2 k)
  obtain⟨p,O,R,V⟩:=K L l;rcases g.2 p O with z|z
  ·exact .inl (by rw [<-R];exact z)
  ·exact .inr (V _ z)
 |_=>rw [hec]at g;cases g
theorem yB{q:List Nat}{rs:Nat->Y10}{id:Y10}{m r:Met}{y g:Pd}{b:Nat}{e e':Ef}(p:X7 m r)(D:sD y g)(l:e'.c=e.c)(A:e.c= .e->e'.h=e.h)(j:okB q rs m y b id e=true):
  okB q rs r g b id e'=true:=by
 unfold okB at j⊢;rw [AD,CJ]at j⊢;refine⟨?_,by rw [l];exact a1J p j.2⟩;rcases j.1 with z|z
 ·exact .inl (by rw [l];exact p.chk _ z)
 ·exact .inr (a2G p D l A z)
theorem sD.refl(g:Pd):sD g g:=fun p j=>⟨p,j,rfl,fun _ h=>h⟩
theorem sD.of_add(j:Pd)(o:Oper)(ev:Operand->Option TV)(e:Ef)(i:Nat):sD (nN E o ev e i j) j:=by
 intro p g;refine⟨p,?_,rfl,fun _ h=>h⟩;unfold nN
 split
 ·exact BK _ g
 ·exact g
theorem sD.add{l j:Pd}(h:sD l j)(o:Oper)(ev:Operand->Option TV)(e:Ef)(i:Nat):sD (nN E o ev e i l) (nN E o ev e i j):=by
 unfold nN
 split
 ·intro m g;rcases CD.1 g with rfl|g
  ·exact⟨_,AY,rfl,fun _ z=>z⟩
  ·obtain⟨p,q,r⟩:=h m g;exact⟨p,BK _ q,r⟩
 ·exact h
theorem uK{r:List Nat}{rs:Nat->Y10}{draw:Bool} : ∀{l:List (Oper×Nat)}{m p:Met}{q g:Pd}{F j:FF}{h h':Heap},Gv E f cf ops bef r rs draw l m q F h j h'->X7 m p->sD q g->Gv E f cf ops bef r rs draw l p g F h j h'
 | [],_,_,_,_,_,_,_,_,hr,_,_=>hr
 | (o,i)::l,m,p,q,g,F,j,h,h',hr,hm,hp=>by
  obtain⟨e,r1,r2,r3⟩:=hr;exact⟨e,r1,fun hd=>yB hm hp rfl (fun _=>rfl) (r2 hd),uK r3 (hm.add _ _) (hp.add _ _ _ _)⟩
theorem X7.refl(m:Met):X7 m m:=⟨fun _ h=>h,fun _ h=>h,fun _ h=>h,fun _ h=>h,fun _ h=>h⟩
theorem a3R(g:rV E cf){al:List Nat}{rs:Nat->Y10}(a2: ∀j n,rs j=some n->j∈al){o:Oper}{i:Nat}{B:List (Oper×Nat)} : ∀{A:List (Oper×Nat)}{m:Met}{pd:Pd}{F F':FF}{h h':Heap},sL F->(∀p∈A,(bef i).testBit p.2=false/\Oper.apart ops.toArray p.1 o=true)->
  Gv E f cf ops bef al rs true (A++(o,i)::B) m pd F h F' h'->
  ∃e,dJ E f cf ops true (rs i) o F.tm F.lv h=some e/\okB al rs m pd (bef i) (kS o (aX E F.tm)) e=true/\Gv E f cf ops bef al rs true (A++B) m pd (F.app o.dst e) e.h F' h'
 | [],m,pd,F,F',h,h',_,_,hr=>by
  obtain⟨e,r1,r2,r3⟩:=hr;exact⟨e,r1,r2 rfl,uK r3 (X7.of_add _ _ _) (sD.of_add _ _ _ _ _)⟩
 | (oa,ia)::A,m,pd,F,F',h,h',hAd,hA,hr=>by
  obtain⟨h1,h2⟩:=hA (oa,ia) JH;obtain⟨G,r1,r2,r3⟩:=hr;obtain⟨y,s1,s2,s3⟩:=a3R g a2 (hAd.appA g r1) (fun p hp=>hA p (by simp [hp])) r3;have a1:=r2 rfl;obtain⟨ab,ap,c0,c4,ar,ae,ax,aa⟩:=eW g r1;obtain⟨ib,ip,il,b5,ir,ie,ix,c5⟩:=eW g s1;obtain⟨t1,t2,t3⟩:=Oper.apart_spec h2;have b3:kS o (aX E (F.app oa.dst G).tm)=kS o (aX E F.tm):=B9 (lB (E:=E) (ops:=ops) fun t X=>by rw [fS ab,if_neg (fun e=>t1 t e X)]);rw [b3]at s2
  cases hcl:jQ G.c y.c with
  |false=>
   have b2:G.c= .a->y.c= .r-> ∀n id,rs ia=some n->kS o (aX E F.tm)=some id->n≠id:=by
    intro c1 c2 n id hn b0;have R:=s2;unfold okB Fo at R;rw [c2,AD]at R;have a3:=R.2;simp only [BQ,CJ,CC]at a3;obtain⟨_,n',x',w1,_⟩:=aa c1;rw [w1]at hn;simp only [AB]at hn;subst hn;rcases a3 ia (a2 _ _ w1)with z|z|z
    ·rw [h1]at z;cases z
    ·rw [c1]at z;simp [Met.add,lX]at z
    ·rw [w1,b0]at z;simp only [CC]at z;rintro rfl;rw [IW]at z;cases z
   obtain⟨V,Y,q1,q2,q3,q4,q5,q6,q7⟩:=e3Z g hAd h2 r1 s1 hcl b2;obtain⟨a4,_,_,_,_,_,_,_⟩:=eW g q1;obtain⟨b7,a6,a5,a7,c3,b9,a8,b6⟩:=eW g q2;have O:kS oa (aX E (F.app o.dst V).tm)=kS oa (aX E F.tm):=B9 (lB (E:=E) (ops:=ops) fun t X=>by rw [fS a4,if_neg (fun e=>t3 t e X)]);have b1:y.c= .e->V.h=y.h:=by
    intro K;rw [<-q6];rw [K]at hcl
    cases hca:Y.c with
    |p=>exact(a6 hca).2.1.symm
    |l=>exact(a5 hca).2.1.symm
    |s=>exact(a7 hca).1.symm
    |b=>exact(a8 hca).1.symm
    |r=>rw [q4]at hca;rw [hca]at hcl;cases hcl
    |e=>rw [q4]at hca;rw [hca]at hcl;cases hcl
    |a=>rw [q4]at hca;rw [hca]at hcl;cases hcl
   have a9:G.c= .e->Y.h=G.h:=by
    intro K;rw [q6];rw [K]at hcl
    cases hci:y.c with
    |p=>exact(ip hci).2.1
    |l=>exact(il hci).2.1
    |s=>exact(b5 hci).1
    |b=>exact(ix hci).1
    |r=>rw [hci]at hcl;cases hcl
    |e=>rw [hci]at hcl;cases hcl
    |a=>rw [hci]at hcl;cases hcl
   refine⟨V,q1,yB (X7.of_add _ _ _) (sD.of_add _ _ _ _ _) q3 b1 s2,Y,q2,fun _=>by rw [O];exact yB (X7.refl _) (sD.refl _) q4 a9 a1,?_⟩;rw [q4,q5,q6];refine uK s3 (X7.refl _) ?_;have hev: ∀h2,dR E oa (aX E (F.app o.dst V).tm) h2=dR E oa (aX E F.tm) h2:=fun h2=>B7 (lB (E:=E) (ops:=ops) fun t X=>by rw [fS a4,if_neg (fun e=>t3 t e X)])
   unfold nN
   rw [q4]
   cases hca:G.c with
   |r=>
    simp only [q7,hev];exact sD.refl _
   |_=>exact sD.refl _
  |true=>
   have q:=s2;unfold okB at q;rw [AD,CJ]at q;rcases q.1 with q|q
   ·have:=(jO _ _).1 q ia (Zm m ia hcl);rw [h1]at this;cases this
   ·have a0:y.c= .e:=by
     unfold Su at q
     cases K:y.c with
     |e=>rfl
     |_=>rw [K]at q;cases q
    have R:=q;unfold Su at R;rw [a0]at R hcl;simp only [AD]at R;have L:G.c= .r:=by
     cases K:G.c with
     |r=>rfl
     |e=>
      exfalso;have:=(jO _ _).1 R.1 ia (by rw [K];simp [Met.add,lX]);rw [h1]at this;cases this
     |a=>
      exfalso;have:=(jO _ _).1 R.1 ia (by rw [K];simp [Met.add,lX]);rw [h1]at this;cases this
     |_=>rw [K]at hcl;cases hcl
    have D:=R.2;unfold nN at D;rw [L]at D;simp only [EL,AD,h1,DZ]at D;have hP:=D.1;have Z:dJ E f cf ops true (rs ia) oa F.tm F.lv y.h=some {G with h:=y.h } :=by
     split at hP
     ·rename_i v2 v b4 hv;have e1:=c1U hP;subst e1;exact Zs r1 L b4 hv
     ·cases hP
    obtain⟨g1,g2,g3⟩:=d8J g h2 r1 s1 L a0 Z;have O:kS oa (aX E (F.app o.dst y).tm)=kS oa (aX E F.tm):=B9 (lB (E:=E) (ops:=ops) fun t X=>by rw [fS ib,if_neg (fun e=>t3 t e X)]);refine⟨y,g1,yB (X7.of_add _ _ _) (sD.of_add _ _ _ _ _) rfl (fun _=>rfl) s2,{G with h:=y.h },g2,fun _=>?_,?_⟩
    ·rw [O];exact yB (e:=G) (e':= {G with h:=y.h }) (X7.refl _) (sD.refl _) rfl (fun K=>by rw [L]at K;cases K) a1
    ·rw [g3];refine uK s3 (X7.refl _) ?_;have hev: ∀h2,dR E oa (aX E (F.app o.dst y).tm) h2=dR E oa (aX E F.tm) h2:=fun h2=>B7 (lB (E:=E) (ops:=ops) fun t X=>by rw [fS ib,if_neg (fun e=>t3 t e X)])
     unfold nN
     simp only [L,hev];exact sD.refl _
structure RegOk(ops:List Oper)(bef:Nat->Nat):Prop where
 back: ∀i o,ops[i]?=some o-> ∀e∈o.after.toList,Region.binds .any e=true->e.on<i
 apart: ∀i o a oa,ops[i]?=some o->a<i->ops[a]?=some oa->(bef i).testBit a=false->Oper.apart ops.toArray oa o=true
 clos: ∀i o a,ops[i]?=some o->(bef i).testBit a=true-> ∃e∈o.after.toList,Region.binds .any e=true/\(e.on=a\/ (bef e.on).testBit a=true)
theorem Rd(y:RegOk ops bef){P:Nat->Prop}(g: ∀j o,P j->ops[j]?=some o-> ∀e∈o.after.toList,Region.binds .any e=true->P e.on)(q: ∀j,P j-> ∃o,ops[j]?=some o):
  ∀i o,ops[i]?=some o->(∀e∈o.after.toList,Region.binds .any e=true->P e.on)-> ∀a,(bef i).testBit a=true->P a:=by
 intro i
 induction i using Nat.strongRecOn with
 |_ i ih=>
  intro o z D a A;obtain⟨e,h1,h2,h3⟩:=y.clos i o a z A;have r:=D e h1 h2;rcases h3 with rfl|h3
  ·exact r
  ·obtain⟨G,l⟩:=q _ r;exact ih e.on (y.back i o z e h1 h2) G l (fun e' m p=>g _ _ r l e' m p) a h3
variable {B n:Nat}
structure Todo(ops:List Oper)(n:Nat)(L:List (Oper×Nat)):Prop where
 at_: ∀p∈L,ops[p.2]?=some p.1
 dst: ∀p∈L,∀t,p.1.dst=some t->t<n
theorem Nxt.trans'{M m p:Meta}{h h1 h2:Heap}{w z A:World}{a q r:Act}{D l:FF}{j g:Nat->Nat}(x:Nxt E B n M h w a D h1 q z m j)(y:Nxt E B n m h1 z q l h2 r A p g):
 Nxt E B n M h w a l h2 r A p g:=⟨y.fr,y.inv,y.glob,x.pres.trans y.pres,y.defers.trans x.defers⟩
theorem Ir{O:List Nat}{rs:Nat->Y10}{draw:Bool}(g:Gs E cf)(Q:Exit->Act->World->Prop): ∀(L:List (Oper×Nat))(m:Met)(z:Pd)(F:FF)(h:Heap)(l:FF)(h':Heap),Gv E f cf ops bef O rs draw L m z F h l h'->Todo ops n L->
  ∀(M:Meta)(w:World)(a:Act)(pb:Nat->Nat),Gu E M->Inv M h w->FR M h w B n F a pb->B<=w.heap.size->
  (∀a' w' M' pb',Nxt E B n M h w a l h' a' w' M' pb'->Q .normal a' w')->wpOps E.P ops.toArray Q (L.map (·.2)) a w
 | [],m,z,F,h,l,h',hr,hT,M,w,a,pb,hG,hI,hF,hB,hQ=>by
  obtain⟨rfl,rfl⟩:=hr;exact hQ a w M pb ⟨hF,hI,hG,Pres.refl _ _ _ _,rfl⟩
 | (o,i)::L,m,z,F,h,l,h',hr,hT,M,w,a,pb,hG,hI,hF,hB,hQ=>by
  obtain⟨e,r1,r2,r3⟩:=hr;have R:ops.toArray[i]?=some o:=by simpa using hT.at_ (o,i) JH
  simp only [BP,wpOps,R];refine Xe g hG hI hF hB (hT.dst (o,i) JH) r1 Q _ (fun G X A r j=>?_);exact Ir g Q L _ _ _ _ _ _ r3 ⟨fun p q=>hT.at_ p (by simp [q]),fun p q=>hT.dst p (by simp [q])⟩ A X G r j.glob j.inv j.fr (CW hB j.pres.size)
   (fun K Y D y V=>hQ K Y D y (j.trans' V))
structure Lst(ops:List Oper)(L:List (Oper×Nat))(listed:Array Bool):Prop where
 size:listed.size=ops.length
 iff_: ∀i,i<ops.length->(listed.getD i true=false ↔ ∃p∈L,p.2=i)
 clos: ∀j o,ops[j]?=some o->listed.getD j true=true-> ∀e∈o.after.toList,Region.binds .any e=true->listed.getD e.on false=true
theorem sM{p q:Oper×Nat}(h:rW ops p q=true):p.2<q.2\/ (p.2≠q.2/\(∀e∈p.1.after.toList,e.on≠q.2)/\Oper.apart ops.toArray p.1 q.1=true):=by
 unfold rW at h;simp only [CJ,AD,BQ,CC]at h;rcases h with h| ⟨⟨h1,h2⟩,h3⟩
 ·exact .inl (BV h)
 ·exact .inr ⟨EX h1,fun e g=>EX (h2 e g),h3⟩
theorem Gw{p q:Oper×Nat}(h:rW ops p q=true):p.2≠q.2:=by
 rcases sM h with z|z
 ·omega
 ·exact z.1
theorem X8: ∀{L:List (Oper×Nat)},J4 ops L=true->L.Pairwise (fun p q=>rW ops p q=true)
 | [],_=> .nil
 |p::r,h=>by
  simp only [J4,AD,BQ]at h;exact .cons h.1 (X8 h.2)
theorem xJ(l:Array Bool)(i:Nat)(h:i<l.size)(a b:Bool):l.getD i a=l.getD i b:=by simp [CQ,h]
theorem b7Y{al:List Nat}{rs:Nat->Y10}(a8: ∀j n,rs j=some n->j∈al)(c3:Gs E cf)(b2:rV E cf)(hR:RegOk ops bef)(Q:Exit->Act->World->Prop): ∀(O:Nat)(L:List (Oper×Nat))(g:Array Bool)(m:Met)(pd:Pd)(F:FF)(h:Heap)(F':FF)(h':Heap),L.length<=O->Gv E f cf ops bef al rs true L m pd F h F' h'->Todo ops n L->L.Pairwise (fun p q=>rW ops p q=true)->Lst ops L g->
  ∀(M:Meta)(w:World)(a:Act)(pb:Nat->Nat),Gu E M->Inv M h w->FR M h w B n F a pb->B<=w.heap.size->
  (∀a' w' M' pb',Nxt E B n M h w a F' h' a' w' M' pb'->Q .normal a' w')->wpAny E.P .any ops.toArray Q O g a w:=by
 have empty: ∀{L:List (Oper×Nat)}{g:Array Bool},Todo ops n L->L.Pairwise (fun p q=>rW ops p q=true)->Lst ops L g->Region.ready .any ops.toArray g=[]->L=[]:=by
  intro L g hT a8 hL hr
  cases L with
  |nil=>rfl
  |cons p L=>
   exfalso;have hp:=hT.at_ p JH;have a5:p.2<ops.length:=(AP.1 hp).1;have G:=(hL.iff_ p.2 a5).2 ⟨p,JH,rfl⟩;have:p.2∈Region.ready .any ops.toArray g:=by
    simp only [Region.ready,GJ,FB,DP];refine⟨a5,?_⟩;simp only [G,DK,BC,DV,hp,DE,FI];rw [GE];intro e V
    cases R:Region.binds .any e with
    |false=>simp
    |true=>
     have c7:=hR.back p.2 p.1 hp e (by simpa using V) R;have a7:e.on<ops.length:=JF;simp only [DS,DZ];rw [xJ g e.on (by rw [hL.size];exact a7) false true]
     cases l:g.getD e.on true with
     |true=>rfl
     |false=>
      obtain⟨q,q1,q2⟩:=(hL.iff_ e.on a7).1 l;have r:=HD.1 a8;simp only [CD]at q1;rcases q1 with rfl|q1
      ·omega
      ·rcases sM (r.1 q q1)with z| ⟨_,z,_⟩
       ·omega
       ·exact absurd q2.symm (z e (by simpa using V))
   rw [hr]at this;simp at this
 intro O
 induction O with
 |zero=>
  intro L g m pd F h F' h' Z hr hT a0 hL M w a pb hG hI hF hB hQ;have:L=[]:=by simpa using Z
  subst this;obtain⟨rfl,rfl⟩:=hr;refine⟨?_,hQ a w M pb ⟨hF,hI,hG,Pres.refl _ _ _ _,rfl⟩⟩;simp only [Region.ready];rw [List.filter_eq_nil_iff];intro i hi;simp only [FB,DP]at hi;have: ¬g.getD i true=false:=by
   rw [hL.iff_ i hi];simp
  simp at this;simp [this]
 |succ O ih=>
  intro L g m pd F h F' h' Z hr hT a0 hL M w a pb hG hI hF hB hQ;refine⟨fun d0=>?_,fun i hi=>?_⟩
  ·have:=empty hT a0 hL d0;subst this;obtain⟨rfl,rfl⟩:=hr;exact hQ a w M pb ⟨hF,hI,hG,Pres.refl _ _ _ _,rfl⟩
  ·simp only [Region.ready,GJ,FB,DP,AD,CC,DV]at hi;obtain⟨a5,G,Y⟩:=hi;obtain⟨p,hp,b4⟩:=(hL.iff_ i a5).1 G;obtain⟨o,D⟩:=p;simp only at b4;subst b4;obtain⟨A,B',c0⟩:=List.append_of_mem hp;subst c0;have ho:ops[D]?=some o:=hT.at_ _ hp;have a4: ∀e∈o.after.toList,Region.binds .any e=true->g.getD e.on false=true:=by
    simp only [ho,DE,FI]at Y;rw [GE]at Y;intro e V R;have:=Y e (by simpa using V);simpa [R]using this
   have r:=II.1 a0;have a6: ∀q∈A,rW ops q (o,D)=true:=fun q l=>r.2.2 q l (o,D) JH
   have c4: ∀j oj,(j<ops.length/\g.getD j true=true)->ops[j]?=some oj-> ∀e∈oj.after.toList,Region.binds .any e=true->(e.on<ops.length/\g.getD e.on true=true):=by
    intro j oj X K e V R;have h1:=hR.back j oj K e V R;have h2:=hL.clos j oj K X.2 e V R;refine⟨JF,?_⟩
    rwa [xJ g e.on (by rw [hL.size];omega) true false]
   have b1:=Rd hR (P:=fun j=>j<ops.length/\g.getD j true=true) c4 (fun j X=>⟨_,AA X.1⟩) D o ho
    (fun e V R=>by
     have h1:=hR.back D o ho e V R;refine⟨JF,?_⟩;rw [xJ g e.on (by rw [hL.size];omega) true false];exact a4 e V R)
   have c9:=a3R b2 a8 hF.addr (fun q l=>by
    have b5:q∈A++(o,D)::B':=by simp [l]
    have b7:=hT.at_ q b5;have b6:q.2<ops.length:=(AP.1 b7).1;have c8:=(hL.iff_ q.2 b6).2 ⟨q,b5,rfl⟩;have b3:(bef D).testBit q.2=false:=by
     cases R:(bef D).testBit q.2 with
     |false=>rfl
     |true=>
      have:=(b1 q.2 R).2;rw [c8]at this;simp at this
    refine⟨b3,?_⟩;rcases sM (a6 q l)with z| ⟨_,_,z⟩
    ·exact hR.apart D o q.2 q.1 ho z b7 b3
    ·exact z) hr
   obtain⟨e,r1,r2,r3⟩:=c9;have c2:Todo ops n (A++B'):=by
    refine⟨fun q l=>hT.at_ q ?_,fun q l=>hT.dst q ?_⟩
    ·simp at l⊢;rcases l with l|l<;>simp [l]
    ·simp at l⊢;rcases l with l|l<;>simp [l]
   have b9:(A++B').Pairwise (fun p q=>rW ops p q=true):=II.2 ⟨r.1,(HD.1 r.2.1).2,fun x hx y hy=>r.2.2 x hx y (by simp [hy])⟩;have a9: ∀q∈A,q.2≠D:=fun q l=>Gw (a6 q l)
   have b0: ∀q∈B',q.2≠D:=fun q l=>(Gw ((HD.1 r.2.1).1 q l)).symm
   have a3: ∀j,j<ops.length->(g.setIfInBounds D true).getD j true=if j=D then true else g.getD j true:=by
    intro j X;simp only [CQ,CP]
    by_cases hji:j=D
    ·subst hji;simp [hL.size,X]
    ·rw [if_neg (fun e=>hji e.symm),if_neg hji]
   have c1:Lst ops (A++B') (g.setIfInBounds D true):=by
    refine⟨by simpa using hL.size,fun j X=>?_,fun j oj K X e V R=>?_⟩
    ·rw [a3 j X]
     by_cases hji:j=D
     ·subst hji;simp only [if_true]
      constructor
      ·intro h;simp at h
      ·rintro⟨q,l,e⟩;simp only [BU]at l;rcases l with l|l
       ·exact absurd e (a9 q l)
       ·exact absurd e (b0 q l)
     ·rw [if_neg hji,hL.iff_ j X]
      constructor
      ·rintro⟨q,l,e⟩;simp only [BU,CD]at l;rcases l with l|rfl|l
       ·exact⟨q,by simp [l],e⟩
       ·exact absurd e.symm hji
       ·exact⟨q,by simp [l],e⟩
      ·rintro⟨q,l,e⟩;simp only [BU]at l;rcases l with l|l
       ·exact⟨q,by simp [l],e⟩
       ·exact⟨q,by simp [l],e⟩
    ·have c5:j<ops.length:=(AP.1 K).1;have c7:=hR.back j oj K e V R;have d3:(g.setIfInBounds D true).size=ops.length:=by simpa using hL.size
     rw [xJ _ e.on JF false true,a3 _ JF]
     by_cases hei:e.on=D
     ·simp [hei]
     ·rw [if_neg hei];rw [xJ g e.on (by rw [hL.size];omega) true false];rw [a3 j c5]at X
      by_cases hji:j=D
      ·subst hji;rw [ho]at K;simp at K;subst K;exact a4 e V R
      ·rw [if_neg hji]at X;exact hL.clos j oj K X e V R
   have c6:ops.toArray[D]?=some o:=by simpa using ho
   simp only [wpOp,c6];refine Xe c3 hG hI hF hB (hT.dst (o,D) JH) r1 Q _ (fun a1 w1 M1 d1 hx=>?_);exact ih (A++B') _ _ _ _ _ _ _ (by simp at Z⊢;omega) r3 c2 b9 c1 M1 w1 a1 d1 hx.glob hx.inv hx.fr (CW hB hx.pres.size) (fun a2 w2 M2 d2 hy=>hQ a2 w2 M2 d2 (hx.trans' hy))
end
def Rw(ops:List Oper)(bef:Nat->Nat):Bool:=
 ops.zipIdx.all fun(o,i)=>
  o.after.toList.all (fun e=>!Region.binds .any e||decide (e.on<i)) &&
  (ops.zipIdx.all (fun(oa,a)=>!decide (a<i)|| (bef i).testBit a||Oper.apart ops.toArray oa o) &&
  kJ (bef i) (o.after.toList.foldl (fun s e=>if Region.binds .any e then s|||bit e.on|||bef e.on else s) 0))
theorem Y9(bef:Nat->Nat)(a:Nat): ∀(l:List Edge)(s:Nat),(l.foldl (fun s e=>if Region.binds .any e then s|||bit e.on|||bef e.on else s) s).testBit a=true->
  s.testBit a=true\/ ∃e∈l,Region.binds .any e=true/\(e.on=a\/ (bef e.on).testBit a=true)
 | [],s,h=> .inl h
 |e::l,s,h=>by
  simp only [List.foldl_cons]at h;rcases Y9 bef a l _ h with h| ⟨e',h1,h2⟩
  ·split at h
   ·rename_i g;simp only [FV,CJ,lX,decide_eq_true_eq]at h;rcases h with(h|h)|h
    ·exact .inl h
    ·exact .inr ⟨e,JH,g,.inl h⟩
    ·exact .inr ⟨e,JH,g,.inr h⟩
   ·exact .inl h
  ·exact .inr ⟨e',by simp [h1],h2⟩
theorem xX{ops:List Oper}{i:Nat}{o:Oper}(h:ops[i]?=some o):(o,i) ∈ops.zipIdx:=by
 rw [EC];exact h
theorem b0L{ops:List Oper}{bef:Nat->Nat}(h:Rw ops bef=true):RegOk ops bef:=by
 unfold Rw at h;rw [BQ]at h;have h': ∀i o,ops[i]?=some o->_:=fun i o g=>h (o,i) (xX g)
 simp only [AD,BQ]at h';refine⟨fun i o g e q j=>?_,fun i o a y g l p m=>?_,fun i o a g j=>?_⟩
 ·have:=(h' i o g).1 e q;simpa [j]using this
 ·have:=(h' i o g).2.1 (y,a) (xX p);simpa [l,m]using this
 ·have r:=(jO _ _).1 (h' i o g).2.2 a j;rcases Y9 bef a _ _ r with h0|h1
  ·simp at h0
  ·exact h1
def gQ(n:Nat):Code->Bool
 | .region _ ops draw=>ops.toList.all (fun o=>match o.dst with|some t=>decide (t<n)|none=>true) && (!draw||Rw ops.toList (J7 ops))
 | .seq a b=>gQ n a&&gQ n b
 | .cond _ a b=>gQ n a&&gQ n b
 | .block _ c=>gQ n c
 | .loop c=>gQ n c
 | .scope c=>gQ n c
 |_=>true
def Pi(fn:Func):Bool:=
 match fn.body with
 | some c => gQ fn.ntmps c && !(fn.name == "runtime.NumGoroutine")
 |none=>true
def B6(P:Program):Bool:=P.funcs.toList.all Pi
def Ex.toExit:Ex->Exit
 | .normal=> .normal
 | .exit id=> .exit id
 | .ret=> .ret
section
variable {E:Env} {f:FuncId} {cf:FuncId->Y14->Heap->Option (IV×Heap)} {N B n:Nat}
theorem b1S{ops:List Oper}(hd:ops.all (fun o=>match o.dst with|some t=>decide (t<n)|none=>true)=true):Todo ops n ops.zipIdx:=by
 refine⟨fun p g=>?_,fun p g t j=>?_⟩
 ·obtain⟨o,i⟩:=p;exact(EC).1 g
 ·obtain⟨o,i⟩:=p;have l:=(EC).1 g;rw [BQ]at hd;have:=hd o (EO l);simp only at j;rw [j]at this;simpa using this
theorem b0P(ops:List Oper):ops.zipIdx.Pairwise (fun p q=>rW ops p q=true):=by
 rw [HO];intro i j l m g;simp only [List.getElem_zipIdx,rW,CJ];exact .inl (Nat.ble_eq_true_of_le JF)
theorem xV{ops:List Oper}{l:List Nat}{p:Oper×Nat} :p∈E7 ops l ↔ p.2∈l/\ops[p.2]?=some p.1:=by
 unfold E7
 simp only [HC,AE]
 constructor
 ·rintro⟨i,g,o,j,rfl⟩;exact⟨g,j⟩
 ·rintro⟨h1,h2⟩;exact⟨p.2,h1,p.1,h2,rfl⟩
theorem Rp(l:List Nat)(draw:Bool)(ops:List Oper):B5 l draw ops=ops.zipIdx\/ (draw=true/\B5 l draw ops=E7 ops l/\l.length<=ops.length/\(∀j,j<ops.length->j∈l)/\J4 ops (E7 ops l)=true):=by
 unfold B5
 split
 ·rename_i i r;split
  ·rename_i h;simp only [AD,BQ,FB]at h;exact .inr ⟨rfl,rfl,BV h.1.1,fun j g=>by simpa using h.1.2 j g,h.2⟩
  ·exact .inl rfl
 ·exact .inl rfl
theorem c4I(ops:List Oper):ops.zipIdx.map (·.2)=List.range ops.length:=by
 apply CY;intro i
 by_cases h:i<ops.length
 ·simp [h,FP]
 ·simp [h]
theorem Ad(ops:List Oper):Lst ops ops.zipIdx (Array.replicate ops.length false):=by
 refine⟨JH,fun i l=>?_,fun j o m p=>?_⟩
 ·simp only [CQ,HU,l,if_true,FI,true_iff];exact⟨(ops[i],i),xX (AA l),rfl⟩
 ·have g:=(AP.1 m).1;simp [CQ,g]at p
theorem a8H{ops:List Oper}{l:List Nat}(h: ∀j,j<ops.length->j∈l):Lst ops (E7 ops l) (Array.replicate ops.length false):=by
 have h0:=Ad ops;refine⟨h0.size,fun i m=>?_,h0.clos⟩;rw [h0.iff_ i m]
 constructor
 ·rintro⟨q,g,e⟩;exact⟨q,xV.2 ⟨by rw [e];exact h i m,(EC).1 g⟩,e⟩
 ·rintro⟨q,g,e⟩;exact⟨q,xX (xV.1 g).2,e⟩
theorem a1V{ops:List Oper}{l:List Nat}(h:Todo ops n ops.zipIdx):Todo ops n (E7 ops l):=
 ⟨fun _ g=>(xV.1 g).2,fun p g=>h.dst p (xX (xV.1 g).2)⟩
structure Sim(E:Env)(B n:Nat)(M:Meta)(h:Heap)(w:World)(fr:Fr)(a:Act)(pb:Nat->Nat):Prop where
 glob:Gu E M
 inv:Inv M h w
 fr:FR M h w B n fr.ff a pb
 le:B<=w.heap.size
theorem Nxt.sim{M M':Meta}{h h':Heap}{w w':World}{g:Fr}{a l:Act}{j:Nat->Nat}(x:Nxt E B n M h w a g.ff h' l w' M' j)(hB:B<=w.heap.size):Sim E B n M' h' w' g l j:=⟨x.glob,x.inv,x.fr,CW hB x.pres.size⟩
theorem FR.forget1{M:Meta}{h:Heap}{w:World}{g:Fr}{a:Act}{pb:Nat->Nat}(s:Nat)(l:FR M h w B n g.ff a pb):FR M h w B n (Fr.ff {tm:=g.tm.filt (tC s),lv:=g.lv.set s none }) a pb:=by
 have m: ∀k tv,(g.tm.filt (tC s)).get k=some tv->g.tm.get k=some tv/\tC s tv=true:=by
  intro k tv e;rw [PT.get_filt]at e;split at e
  ·rename_i x L;split at e
   ·rename_i K;simp only [AB]at e;subst e;exact⟨L,K⟩
   ·cases e
  ·cases e
 have j: ∀t cs,(g.lv.set s none).get t=some cs->t≠s/\g.lv.get t=some cs:=by
  intro t cs e;rw [PT.get_set]at e;split at e
  ·cases e
  ·rename_i G;exact⟨G,e⟩
 refine⟨l.size,fun k tv e=>l.tm k tv (m k tv e).1,fun t cs e=>l.loc t cs (j t cs e).2,fun t r c1 c2 y z A=>l.one t r c1 c2 (j t c1 y).2 (j r c2 z).2 A,fun k t q e=>?_⟩;obtain⟨h1,h2⟩:=m k _ e;have p:t≠s:=by simpa [tC]using h2
 obtain⟨cs,D⟩:=l.addr k t q h1;refine⟨cs,?_⟩;show(g.lv.set s none).get t=some cs;rw [PT.get_set,if_neg p];exact D
theorem FR.forget{M:Meta}{h:Heap}{w:World}{a:Act}{pb:Nat->Nat} : ∀(l:List Nat){g:Fr},FR M h w B n g.ff a pb->FR M h w B n (g.forget l).ff a pb
 | [],_,hF=>hF
 |s::r,_,hF=>FR.forget r (hF.forget1 s)
theorem FR.start{M:Meta}{h:Heap}{w:World}{a:Act}{pb:Nat->Nat}{g:Fr}{f:FuncId}{ops:List Oper}{draw:Bool}(j:FR M h w B n g.ff a pb):FR M h w B n (g.start E f ops draw).ff a pb:=by
 unfold Fr.start
 split
 ·exact FR.forget _ j
 ·exact j
def d5I(E:Env)(B n:Nat)(c:Code)(l:Fr)(h:Heap)(j:Ex)(g:Fr)(h':Heap):Prop:=
 ∀M w a pb,Sim E B n M h w l a pb-> ∀Q:Exit->Act->World->Prop,(∀a' w' M' pb',Nxt E B n M h w a g.ff h' a' w' M' pb'->Q j.toExit a' w')->c.wp E.P Q a w
theorem Rx(O:Gs E cf)(R:rV E cf)(hm:E.P.follows .mixedOrders=true){id:Nat}{ops:Array Oper}{draw:Bool}{X r:Fr}{h h':Heap}(A:gQ n (.region id ops draw)=true)
  (hr:nP E f cf ops.toList draw (J7 ops) (E.an f id) (Sb h.next (E.an f id)) (B5 (E.od f id) draw ops.toList) {} [] X (h.reserve (E.an f id).length)=some (r,h')):d5I E B n (.region id ops draw) X h .normal r h':=by
 intro M0 w a pb l Q a2;obtain⟨M,a0,y⟩:=l.inv.reserve (E.an f id).length;have j:Sim E B n M (h.reserve (E.an f id).length) w X a pb:=⟨l.glob.mono y.ext,a0,l.fr.step y,l.le⟩;have hQ: ∀K w' M' m,Nxt E B n M (h.reserve (E.an f id).length) w a r.ff h' K w' M' m->Q Ex.normal.toExit K w':=fun K w' M' m g=>a2 K w' M' m ⟨g.fr,g.inv,g.glob,(y.mono l.le).trans g.pres,g.defers⟩
 simp only [gQ,AD]at A;have G:=Xg (E:=E) (f:=f) (cf:=cf) (ops:=ops.toList) (bef:=J7 ops) hr;have L:=b1S A.1
 cases draw with
 |false=>
  refine wp_region ?_;rw [show B5 (E.od f id) false ops.toList=ops.toList.zipIdx from rfl]at G;have:=Ir (ops:=ops.toList) O Q _ _ _ _ _ _ _ G L M w a pb j.glob j.inv j.fr j.le hQ;rw [c4I]at this;simpa using this
 |true=>
  refine wp_region_any hm ?_;have hR:=b0L (by simpa using A.2);have Z:=j.inv.drew;have Y:FR M (h.reserve (E.an f id).length) w.drew B n X.ff a pb:=⟨j.fr.size,j.fr.tm,j.fr.loc,j.fr.one,j.fr.addr⟩;have a1:Todo ops.toList n (B5 (E.od f id) true ops.toList)/\(B5 (E.od f id) true ops.toList).Pairwise (fun p q=>rW ops.toList p q=true)/\Lst ops.toList (B5 (E.od f id) true ops.toList) (Array.replicate ops.toList.length false)/\(B5 (E.od f id) true ops.toList).length<=ops.toList.length:=by
   rcases Rp (E.od f id) true ops.toList with z| ⟨_,z,z0,z1,z2⟩
   ·rw [z];exact⟨L,b0P _,Ad _,JH⟩
   ·rw [z];exact⟨a1V L,X8 z2,a8H z1,CW (List.length_filterMap_le _ _) z0⟩
  obtain⟨L,D,hL,V⟩:=a1;have:=b7Y (ops:=ops.toList) (fun _ _ e=>Kg e) O R hR Q ops.toList.length _ _ _ _ _ _ _ _ V G L D hL M w.drew a pb j.glob Z Y j.le (fun K w' M' m g=>hQ K w' M' m
   ⟨g.fr,g.inv,g.glob,⟨g.pres.ext,g.pres.size,g.pres.os,g.pres.tape,g.pres.output,g.pres.keep⟩,g.defers⟩)
  simpa using this
theorem a5L(a5:Gs E cf)(a3:rV E cf)(hm:E.P.follows .mixedOrders=true): ∀(c:Code),gQ n c=true-> ∀(D:Fr)(h:Heap)(A:Ex)(p:Fr)(h':Heap),dS E f cf N c D h=some (A,p,h')->d5I E B n c D h A p h':=by
 intro c
 induction c with
 |skip=>
  intro j D h A p h' g;simp [dS]at g;obtain⟨rfl,rfl,rfl⟩:=g;intro M w a pb m Q z;exact wp_skip (z a w M pb ⟨m.fr,m.inv,m.glob,Pres.refl _ _ _ _,rfl⟩)
 |region id ops draw=>
  intro j D h A p h' g;simp only [dS]at g;split at g
  case h_2=>simp at g
  rename_i Y h1 R;simp at g;obtain⟨rfl,rfl,rfl⟩:=g;exact fun M w a pb m Q z=>Rx a5 a3 hm j R M w a pb ⟨m.glob,m.inv,m.fr.start,m.le⟩ Q z
 |seq x y ihx ihy=>
  intro j D h A p h' g;simp only [gQ,AD]at j;simp only [dS]at g;intro M w a pb m Q z;refine wp_seq ?_;split at g
  ·rename_i Y h1 R;refine ihx j.1 _ _ _ _ _ R M w a pb m _ (fun G K O q L=>?_);show y.wp E.P Q G K;refine ihy j.2 _ _ _ _ _ g O K G q (L.sim m.le) Q (fun a2 w2 M2 a0 hy=>z a2 w2 M2 a0 (L.trans' hy))
  ·rename_i V;refine ihx j.1 _ _ _ _ _ g M w a pb m _ (fun G K O q L=>?_);have X:=z G K O q L
   cases A with
   |normal=>exact absurd g (V _ _)
   |exit id=>exact X
   |ret=>exact X
 |cond c x y ihx ihy=>
  intro j D h A p h' g;simp only [gQ,AD]at j;simp only [dS]at g;intro M w a pb m Q z;split at g
  ·rename_i R;have hv:VR M (.bool true) (a.eval c):=Us m.glob m.fr c _ R;generalize hc:a.eval c=r at hv
   cases hv
   exact wp_cond_true hc (ihx j.1 _ _ _ _ _ g M w a pb m Q z)
  ·rename_i R;have hv:VR M (.bool false) (a.eval c):=Us m.glob m.fr c _ R;generalize hc:a.eval c=r at hv
   cases hv
   exact wp_cond_false hc (ihy j.2 _ _ _ _ _ g M w a pb m Q z)
  ·simp at g
 |block id x ihx=>
  intro j D h A p h' g;simp only [gQ]at j;simp only [dS]at g;intro M w a pb m Q z;refine wp_block ?_;split at g
  ·rename_i a4 Y h1 R;refine ihx j _ _ _ _ _ R M w a pb m _ (fun G K O q L=>?_);show(if a4=id then Q .normal G K else Q (.exit a4) G K);split at g
   ·rename_i Z;simp at g;obtain⟨rfl,rfl,rfl⟩:=g;rw [if_pos Z];exact z G K O q L
   ·rename_i Z;simp at g;obtain⟨rfl,rfl,rfl⟩:=g;rw [if_neg Z];exact z G K O q L
  ·rename_i V;refine ihx j _ _ _ _ _ g M w a pb m _ (fun G K O q L=>?_);have X:=z G K O q L
   cases A with
   |normal=>exact X
   |exit id=>exact absurd g (V _ _ _)
   |ret=>exact X
 |loop x ihx=>
  intro j D h A p h' g;simp only [gQ]at j;simp only [dS]at g;intro M w a pb m Q z;refine wp_loop_rounds N ?_;have a6: ∀(k:Nat)(D:Fr)(h:Heap),kE (dS E f cf N x) k D h=some (A,p,h')-> ∀M w a pb,Sim E B n M h w D a pb->
    (∀a' w' M' pb',Nxt E B n M h w a p.ff h' a' w' M' pb'->Q A.toExit a' w')->Code.rounds E.P x Q k a w:=by
   intro k
   induction k with
   |zero=>intro D h g;simp [kE]at g
   |succ k ihk=>
    intro D h g M w a pb m z;rw [rounds_succ];unfold kE at g;split at g
    ·rename_i Y h1 R;refine ihx j _ _ _ _ _ R M w a pb m _ (fun G K O q L=>?_);show Code.rounds E.P x Q k G K;exact ihk Y h1 g O K G q (L.sim m.le) (fun a2 w2 M2 a0 hy=>z a2 w2 M2 a0 (L.trans' hy))
    ·rename_i V;refine ihx j _ _ _ _ _ g M w a pb m _ (fun G K O q L=>?_);have X:=z G K O q L
     cases A with
     |normal=>exact absurd g (V _ _)
     |exit id=>exact X
     |ret=>exact X
  exact a6 N D h g M w a pb m z
 |rangeFunc f ps x y ihx ihy=>
  intro j D h A p h' g;simp [dS]at g
 |exit id=>
  intro j D h A p h' g;simp [dS]at g;obtain⟨rfl,rfl,rfl⟩:=g;intro M w a pb m Q z;exact wp_exit (z a w M pb ⟨m.fr,m.inv,m.glob,Pres.refl _ _ _ _,rfl⟩)
 |scope x ihx=>
  intro j D h A p h' g;simp only [gQ]at j;simp only [dS]at g;intro M w a pb m Q z;refine wp_scope_straight ?_;refine ihx j _ _ _ _ _ g M w a pb m _ (fun G K O q L=>?_);have X:=z G K O q L
  cases A<;>exact X
 |label l=>
  intro j D h A p h' g;simp [dS]at g
 |goto l=>
  intro j D h A p h' g;simp [dS]at g
 |ret=>
  intro j D h A p h' g;simp [dS]at g;obtain⟨rfl,rfl,rfl⟩:=g;intro M w a pb m Q z;exact wp_ret (z a w M pb ⟨m.fr,m.inv,m.glob,Pres.refl _ _ _ _,rfl⟩)
 |refuse s=>
  intro j D h A p h' g;simp [dS]at g
def a1K(g:Array Value):ResultVar->Sem Value
 | .tmp t=>pure (g.getD t undef)
 | .cell a t=>do loadVar t (<-asAddr (g.getD a undef))
theorem Rz(fn:Func)(g:Array Value):results fn g=(do let vs<-fn.results.mapM (a1K g);pure (if h:vs.size=1 then vs[0]else .tuple vs)):=rfl
theorem Bc{M:Meta}{h:Heap}{w:World}{A:Fr}{a:Act}{pb:Nat->Nat}(l:Sim E B n M h w A a pb): ∀{rs:List ResultVar}{vs:Y14},iY E.P A h rs=some vs->
  ∃rv:List Value,(rs.mapM (a1K a.tmps)).run E.P w= .ok rv w/\cO M vs rv
 | [],vs,hr=>by simp [iY]at hr;subst hr;exact⟨[],rfl,cO.nil M⟩
 |r::rs,vs,hr=>by
  unfold iY at hr;split at hr
  case h_2=>simp at hr
  rename_i v V h1 h2;simp at hr;subst hr;obtain⟨rv,h3,h4⟩:=Bc l h2;have m: ∃q,(a1K a.tmps r).run E.P w= .ok q w/\VR M v q:=by
   cases r with
   |tmp t=>
    simp only [yG]at h1;exact⟨_,rfl,l.fr.tm t _ (R4 h1)⟩
   |cell ad t=>
    simp only [yG]at h1;split at h1
    ·rename_i s j g;split at h1
     case h_2=>simp at h1
     rename_i cs y;have p:a.tmps.getD ad undef= .pointer (some ⟨pb s,j,none⟩):=l.fr.tm ad _ g;obtain⟨_,_,_,rc,Y,fz,k4,k5,k6⟩:=l.fr.loc s cs y;obtain⟨q,k7,k8⟩:=xS (P:=E.P) (w:=w) (b:=pb s) (base:=0) k6 (fun i L=>by simp [World.cell?,k4,show i<rc.size by simpa using L]) h1;refine⟨q,?_,k8⟩;simp only [a1K,p,asAddr,AQ,AT,AI];simpa using k7
    ·rename_i id j g;split at h1
     case h_2=>simp at h1
     rename_i cs K;have p:VR M (.ptr id j) (a.tmps.getD ad undef):=l.fr.tm ad _ g;generalize hq:a.tmps.getD ad undef=pr at p
     cases p with
     | @ptr _ _ b hl=>
      obtain⟨X,rc,z,Z,l3,O,R⟩:=l.inv.row K;rw [hl]at z;simp at z;subst z;obtain⟨q,k7,k8⟩:=xS (P:=E.P) O R h1;refine⟨q,?_,k8⟩;simp only [a1K,hq,asAddr,AQ,AT,AI];simpa using k7
    ·simp at h1
  obtain⟨q,D,G⟩:=m;refine⟨q::rv,?_,cO.cons G h4⟩;simp only [IF,AQ,D,AI,h3,AT]
def Q0(rv:List Value):Value:=if h:rv.toArray.size=1 then rv.toArray[0]else .tuple rv.toArray
theorem Ky{M:Meta}{vs:Y14}{rv:List Value}(h2:cO M vs rv):VR M (kG vs) (Q0 rv):=by
 unfold Q0
 have g:=h2.1
 cases vs with
 |nil=>
  cases rv with
  |nil=>exact dW h2
  |cons _ _=>simp at g
 |cons v vs'=>
  cases rv with
  |nil=>simp at g
  |cons q rv'=>
   cases vs' with
   |nil=>
    cases rv' with
    |nil=>
     have:=h2.2 0 JH JH;simpa [kG]using this
    |cons _ _=>simp at g
   |cons v2 vs2=>
    cases rv' with
    |nil=>simp at g
    |cons q2 rv2=>
     have: ¬ ((q::q2::rv2).toArray.size=1):=JH;rw [dif_neg this];exact dW h2
theorem Sa{M:Meta}{h:Heap}{w:World}{g:Fr}{a:Act}{pb:Nat->Nat}(m:Sim E B n M h w g a pb){fn:Func}{vs:Y14}(l:iY E.P g h fn.results.toList=some vs):
  ∃rv,(results fn a.tmps).run E.P w= .ok (Q0 rv) w/\cO M vs rv:=by
 obtain⟨rv,h1,h2⟩:=Bc m l;have j:(fn.results.mapM (a1K a.tmps)).run E.P w= .ok rv.toArray w:=by
  rw [HL];simp only [Sem.run_map];rw [h1];rfl
 refine⟨rv,?_,h2⟩;rw [Rz];simp only [AQ,j,AI,AT];rfl
theorem sV: ∀(args:Y14)(i:Nat)(t:PT TV)(k:Nat),(lM args i t).get k=if i<=k/\k<i+args.length then(args[k-i]?).map .v else t.get k
 | [],i,t,k=>by
  rw [if_neg (by simp only [BW];omega)];rfl
 |v::r,i,t,k=>by
  unfold lM
  rw [sV r (i+1) _ k,PT.get_set]
  by_cases h1:k=i
  ·subst h1;rw [if_neg JF,if_pos rfl,if_pos ⟨AG _,JH⟩];simp
  ·by_cases h2:i+1<=k/\k<i+1+r.length
   ·rw [if_pos h2,if_pos ⟨JF,by simp;omega⟩];rw [show k-i=(k- (i+1))+1 by omega];simp
   ·rw [if_neg h2,if_neg h1,if_neg (by simp;omega)]
theorem Hd{cf:FuncId->Y14->Heap->Option (IV×Heap)}(R:Gs E cf)(D:rV E cf)(hm:E.P.follows .mixedOrders=true){g:FuncId}{fn:Func}{c:Code}(X:E.P.funcs[g]?=some fn)(A:fn.body=some c)(Y:gQ fn.ntmps c=true)
  {xs vs:Y14} {h h1:Heap} (hr:jG E g cf N fn.results.toList c xs h=some (vs,h1)) {M:Meta} {w:World} {rs:List Value} (hI:Inv M h w) (hG:Gu E M) (hrs:cO M xs rs):
  Calls E.P g rs.toArray w fun e w'=> ∃rv M',e= .returned (Q0 rv)/\cO M' vs rv/\Inv M' h1 w'/\Pres w.heap.size M h w M' h1 w':=by
 have fin: ∀(O:Ex)(z:Fr),(O= .normal\/O= .ret)->dS E g cf N c ⟨lM xs 0 .nil,.nil⟩ h=some (O,z,h1)->iY E.P z h1 fn.results.toList=some vs->
   Calls E.P g rs.toArray w fun e w'=> ∃rv M',e= .returned (Q0 rv)/\cO M' vs rv/\Inv M' h1 w'/\Pres w.heap.size M h w M' h1 w':=by
  intro O z V j K;refine calls_of_wp X A ?_;have a0:xs.length=rs.length:=hrs.1;have G: ∀t,((rs.toArray++Array.replicate (fn.ntmps-rs.toArray.size) undef).getD t undef)=(rs[t]?).getD undef:=by
   intro t;rw [CQ]
   by_cases y:t<rs.length
   ·rw [HH (by simpa using y)];simp
   ·rw [Array.getElem?_append_right (by simp;omega)];simp only [BH (Nat.le_of_not_lt y),Option.getD_none,HU];split<;>rfl
  have Z:Sim E w.heap.size fn.ntmps M h w ⟨lM xs 0 .nil,.nil⟩ {tmps:=rs.toArray++Array.replicate (fn.ntmps-rs.toArray.size) undef,defers:=[] } (fun _=>0):=by
   refine⟨hG,hI,⟨by simp;omega,fun t tv y=>?_,fun s cs e=>by simp [Fr.ff,PT.get]at e,fun s s' c1 c2 e=>by simp [Fr.ff,PT.get]at e,fun k s a1 e=>by
    simp only [Fr.ff,sV]at e;split at e
    ·obtain⟨x,_,h2⟩:=AE.1 e;cases h2
    ·simp [PT.get]at e⟩,AG _⟩
   simp only [Fr.ff,sV]at y;rw [G];split at y
   ·rename_i hb;simp only [IX]at y;obtain⟨x,p,rfl⟩:=AE.1 y;obtain⟨r,l,m⟩:=hrs.get p;rw [l];exact m
   ·simp [PT.get]at y
  refine a5L (B:=w.heap.size) R D hm c Y _ _ _ _ _ j M w _ _ Z _ (fun a' w' M' a2 p=>?_);obtain⟨rv,l,m⟩:=Sa (p.sim (AG _)) K;rcases V with rfl|rfl
  ·exact⟨p.defers,Q0 rv,l,rv,M',rfl,m,p.inv,p.pres⟩
  ·exact⟨p.defers,Q0 rv,l,rv,M',rfl,m,p.inv,p.pres⟩
 unfold jG at hr;split at hr
 ·rename_i z h' j;obtain⟨q,q1,L⟩:=AE.1 hr;simp only [BT]at L;obtain⟨rfl,rfl⟩:=L;exact fin .normal z (.inl rfl) j q1
 ·rename_i z h' j;obtain⟨q,q1,L⟩:=AE.1 hr;simp only [BT]at L;obtain⟨rfl,rfl⟩:=L;exact fin .ret z (.inr rfl) j q1
 ·cases hr
theorem a6M{M y:Meta}{h h2:Heap}{w w':World}(a:Inv M h w)(V:Inv y h2 w')(z:Pres w.heap.size M.pure Heap.empty w y h2 w'):
  ∃M3,Inv M3 h w'/\Pres w.heap.size M h w M3 h w'/\(∀b o v,y.im b o=some v->M3.im b o=some v)/\(∀b n,y.bsz b=some n->M3.bsz b=some n):=by
 have D: ∀b,b<w.heap.size->w'.heap[b]?=w.heap[b]?/\∀o,y.im b o=M.im b o:=fun b j=>by
  obtain⟨h1,_,h3⟩:=z.keep b j (by rintro⟨id,e⟩;simp [Wb,Heap.empty,Heap.get,PT.get]at e);exact⟨h1,h3⟩
 let M3:Meta:= {M with im:=fun b o=>if b<w.heap.size then M.im b o else y.im b o,bsz:=fun b=>match M.bsz b with|some n=>some n|none=>y.bsz b }
 have g: ∀b o,b<w.heap.size->M3.im b o=M.im b o:=fun b o j=>if_pos j
 have K:Ext M M3:=⟨AG _,fun _ _ e=>e,fun b o v e=>by
  have j:b<w.heap.size:=by
   have:=a.im b o v e;unfold World.cell? at this;rcases BB b w.heap.size with q|q
   ·exact q
   ·simp [Array.getElem?_eq_none q]at this
  rw [g b o j];exact e,fun b n e=>by simp [M3,e],fun _ _=>AG _,fun _ _ _=>rfl⟩
 have L: ∀b n,M.bsz b=some n->M3.bsz b=M.bsz b:=fun b n e=>by simp [M3,e]
 have p: ∀{b rc},Blk M w b rc->Blk M3 w' b rc:=fun l=>l.keep (D _ l.lt).1 (L _ _ l.bsz)
 refine⟨M3,⟨a.nid,a.fresh,a.freshl,fun id cs e=>?_,fun id n e=>?_,fun id Y e=>?_,fun b o v e=>?_,fun b n e=>?_,a.one,a.resv⟩,⟨K,z.size,z.os,z.tape,z.output,fun b j Z=>⟨(D b j).1,Z,fun o=>g b o j⟩⟩,fun b o v e=>?_,fun b n e=>?_⟩
 ·obtain⟨b,rc,G,r,A,R,l5⟩:=a.cells id cs e;exact⟨b,rc,G,p r,A,R.mono K,fun o=>by rw [g b o r.lt];exact l5 o⟩
 ·obtain⟨l0,b,e',rc,G,r,A,R⟩:=a.tips id n e;exact⟨l0,b,e',rc,G,p r,A,fun o ho=>by rw [g b o r.lt];exact R o ho⟩
 ·obtain⟨b,ents,X,G,r,A⟩:=a.maps id Y e;exact⟨b,ents,X,G,(D b (cP r)).1.trans r,⟨A.1.1.mono K,A.1.2.mono K⟩,A.2⟩
 ·simp only [M3]at e;split at e
  ·rename_i j;have h1:=a.im b o v e;unfold World.cell? at h1⊢;simp only at h1⊢;rw [(D b j).1];exact h1
  ·exact V.im b o v e
 ·simp only [M3]at e;split at e
  ·rename_i m O;have:=a.bsz b m O;have:=z.size;omega
  ·exact V.bsz b n e
 ·simp only [M3];split
  ·rename_i j;rw [<- (D b j).2 o];exact e
  ·exact e
 ·simp only [M3];split
  ·rename_i m O;have:=z.ext.bsz b m O;rw [this]at e;exact e
  ·exact e
theorem b8X{M:Meta}{h:Heap}{w:World}(a:Inv M h w):Inv M.pure Heap.empty w where
 nid:=rfl
 fresh:=fun id _=>by simp [Heap.empty,Heap.get,PT.get]
 freshl:=fun _ _=>rfl
 cells:=fun id cs e=>by simp [Heap.empty,Heap.get,PT.get]at e
 tips:=fun id n e=>by simp [Heap.empty,Heap.get,PT.get]at e
 maps:=fun id j e=>by simp [Heap.empty,Heap.get,PT.get]at e
 im:=a.im
 bsz:=a.bsz
 one:=fun id g b e _=>by simp [Wb,Heap.empty,Heap.get,PT.get]at e
 resv:=fun id e=>by simp [Heap.empty,Heap.get,PT.get]at e
theorem Ki(E:Env): ∀N,rV E (eJ E N)
 |0=>fun g p xs h v h' j=>by simp [eJ]at j
 |N+1=>fun g p xs h v h' j=>by
  rw [jU]at j;split at j
  case h_2=>simp at j
  rename_i fn m;split at j
  case h_2=>simp at j
  rename_i c l;simp only [p]at j;split at j
  case isFalse=>simp at j
  rename_i q;split at j
  case h_2=>simp at j
  rename_i vs h1 z;obtain⟨A,r,y⟩:=AE.1 j;simp only [BT]at y;obtain⟨rfl,rfl⟩:=y;refine⟨rfl,fun h2=>?_⟩;rw [jU];simp only [m,l,p,q,z,r,if_true,DE]
theorem Hy(X:E.P.follows .mixedOrders=true)(G:B6 E.P=true): ∀N,Gs E (eJ E N)
 |0=>fun g xs h v h' l=>by simp [eJ]at l
 |N+1=>fun g xs h v h' l=>by
  have ih:=Hy X G N;rw [jU]at l;split at l
  case h_2=>simp at l
  rename_i fn q;split at l
  case h_2=>simp at l
  rename_i c j;have m:Pi fn=true:=by
   unfold B6 at G;rw [BQ]at G;have:fn∈E.P.funcs.toList:=by
    rw [<-Array.getElem?_toList]at q;exact EO q
   exact G fn this
  unfold Pi at m;rw [j]at m;simp only [AD,CC]at m;refine⟨⟨fn,q,by simp [j],m.2⟩,fun M w rs O hG D=>?_⟩;split at l
  ·split at l
   case h_2=>simp at l
   rename_i vs h1 R;refine(Hd ih (Ki E N) X q j m.1 R O hG (Vv (E:=E) (f:=g) (ts:=fn.params.toList) D)).mono fun e w'=>?_
   rintro⟨rv,M',h2,h3,h4,A⟩;obtain⟨r,g1,g2,g3⟩:=Pk E g h4 (Ky (Vv (E:=E) (f:=g) (ts:=fn.resultTypes.toList) h3));simp only [AB]at l;rw [l]at g1 g2 g3;exact⟨_,r,h2,g3,g1,A.trans (g2.mono A.size)⟩
  ·split at l
   case isFalse=>simp at l
   rename_i Z;split at l
   case h_2=>simp at l
   rename_i vs h1 R;obtain⟨v',p,hq⟩:=AE.1 l;simp only [BT]at hq;obtain⟨rfl,rfl⟩:=hq;have z:cO M.pure (iX E.P fn.params.toList xs) rs:=Jz (M:=M) (M':=M.pure) (fun _ _ _ e=>e) (fun _ _ e=>e) (yA D) Z;have L:Gu E M.pure:=fun g cs e=>(show VR M.pure.pure (.vref cs 0) _ from hG g cs e)
   refine(Hd ih (Ki E N) X q j m.1 R (b8X O) L z).mono fun e w'=>?_
   rintro⟨rv,M',h2,h3,h4,A⟩;have V: ∃r y,Inv r y w'/\Pres w.heap.size M.pure Heap.empty w r y w'/\cO r (N0 E g vs h1) rv:=by
    unfold N0
    split
    ·obtain⟨r,c1,c2,K,_⟩:=I2 (b8P E g) vs M' h1 w' rv h4 h3;exact⟨r,_,c1,A.trans (c2.mono A.size),K⟩
    ·exact⟨M',h1,h4,A,h3⟩
   obtain⟨r,y,c1,c2,K⟩:=V;obtain⟨M3,d1,d2,d3,d4⟩:=a6M O c1 c2;unfold Ds at p;simp only at p;split at p
   case isFalse=>cases p
   rename_i Y;simp only [AB]at p;subst p;exact⟨_,M3,h2,Ky (Jz d3 d4 (yA K) Y),d1,d2⟩
end
section
variable {E:Env} {f:FuncId} {cf cf':FuncId->Y14->Heap->Option (IV×Heap)} {ops:List Oper} {draw:Bool} {bef:Nat->Nat}
def Gt(cf cf':FuncId->Y14->Heap->Option (IV×Heap)):Prop:= ∀g xs h r,cf g xs h=some r->cf' g xs h=some r
theorem Y2(j:Gt cf cf'){o:Oper}{ev:Operand->Option TV}{lv:Nat->Option (Y14)}{h:Heap}{e:Ef}(g:eB E f cf draw o ev lv h=some e):eB E f cf' draw o ev lv h=some e:=by
 unfold eB at g⊢
 cases hp:eH E f o ev with
 |some q=>simp only [hp]at g⊢;exact g
 |none=>
 simp only [hp]at g⊢
 cases hl:gB E o ev lv with
 |some q=>simp only [hl]at g⊢;exact g
 |none=>
 simp only [hl]at g⊢
 cases hs:iG E o ev lv with
 |some q=>simp only [hs]at g⊢;exact g
 |none=>
 simp only [hs]at g⊢
 cases hr:dR E o ev h with
 |some q=>simp only [hr]at g⊢;exact g
 |none=>
 simp only [hr]at g⊢
 cases hee:gS E f o ev h with
 |some q=>simp only [hee]at g⊢;exact g
 |none=>
 simp only [hee]at g⊢
 cases hcl:dO o ev with
 |none=>simp only [hcl]at g;cases g
 |some q=>
 simp only [hcl]at g⊢
 cases hcf:cf q.1 q.2 h with
 |none=>simp only [hcf]at g;cases g
 |some r=>simp only [hcf,j _ _ _ _ hcf]at g⊢;exact g
theorem a5U(l:Gt cf cf'){o:Oper}{j:Nat->Option TV}{lv:Nat->Option (Y14)}{h:Heap}{e:Ef}(g:vU E f cf ops draw o j lv h=some e):vU E f cf' ops draw o j lv h=some e:=by
 unfold vU at g⊢;split at g
 ·cases g
 ·exact g
 ·exact Y2 l g
theorem Y1(l:Gt cf cf'){rs:Y10}{o:Oper}{j:Nat->Option TV}{lv:Nat->Option (Y14)}{h:Heap}{e:Ef}(g:dJ E f cf ops draw rs o j lv h=some e):dJ E f cf' ops draw rs o j lv h=some e:=by
 cases rs with
 |none=>exact a5U l g
 |some n=>exact g
theorem tF(y:Gt cf cf'){q:List Nat}{rs:Nat->Y10} : ∀{l:List (Oper×Nat)}{m:Met}{p:Pd}{g:Fr}{h:Heap}{r:Fr×Heap},nP E f cf ops draw bef q rs l m p g h=some r->nP E f cf' ops draw bef q rs l m p g h=some r
 | [],_,_,_,_,_,he=>he
 | (o,i)::l,m,p,g,h,r,he=>by
  unfold nP at he⊢;split at he
  ·rename_i e j;simp only [Y1 y j];split at he
   ·rename_i z;rw [if_pos z];exact tF y he
   ·cases he
  ·cases he
theorem rL{j g:Fr->Heap->Option (Ex×Fr×Heap)}(q: ∀l h r,j l h=some r->g l h=some r): ∀{n m:Nat}{l:Fr}{h:Heap}{r:Ex×Fr×Heap},n<=m->kE j n l h=some r->kE g m l h=some r
 |0,_,_,_,_,_,he=>by simp [kE]at he
 |n+1,0,_,_,_,hn,_=>JF
 |n+1,m+1,l,h,r,hn,he=>by
  unfold kE at he⊢;split at he
  ·rename_i p h' y;simp only [q _ _ _ y];exact rL q (GC hn) he
  ·rename_i A;rw [q _ _ _ he];split
   ·rename_i p h' z
    cases z
    exact absurd he (A _ _)
   ·rfl
theorem uJ(D:Gt cf cf'){n m:Nat}(G:n<=m): ∀{c:Code}{j:Fr}{h:Heap}{r:Ex×Fr×Heap},dS E f cf n c j h=some r->dS E f cf' m c j h=some r:=by
 intro c
 induction c with
 |region id ops draw=>
  intro j h r g;simp only [dS]at g⊢;split at g
  ·rename_i l h' K;simp only [tF D K];exact g
  ·cases g
 |seq a b iha ihb=>
  intro j h r g;simp only [dS]at g⊢;split at g
  ·rename_i l h' z;simp only [iha z];exact ihb g
  ·rename_i y;rw [iha g];split
   ·rename_i l h' p
    cases p
    exact absurd g (y _ _)
   ·rfl
 |cond c a b iha ihb=>
  intro j h r g;simp only [dS]at g⊢;split at g
  ·exact iha g
  ·exact ihb g
  ·cases g
 |block id c ih=>
  intro j h r g;simp only [dS]at g⊢;split at g
  ·rename_i A l h' z;simp only [ih z];exact g
  ·rename_i y;rw [ih g];split
   ·rename_i A l h' p
    cases p
    exact absurd g (y _ _ _)
   ·rfl
 |loop c ih=>
  intro j h r g;simp only [dS]at g⊢;exact rL (fun _ _ _ q=>ih q) G g
 |scope c ih=>
  intro j h r g;simp only [dS]at g⊢;exact ih g
 |_=>intro j h r g;first|exact g| (simp only [dS]at g⊢;exact g)
theorem xD(l:Gt cf cf'){n m:Nat}(p:n<=m){rs:List ResultVar}{c:Code}{args:Y14}{h:Heap}{r:Y14×Heap}(g:jG E f cf n rs c args h=some r):jG E f cf' m rs c args h=some r:=by
 unfold jG at g⊢;split at g
 ·rename_i q h' j;simp only [uJ l p j];exact g
 ·rename_i q h' j;simp only [uJ l p j];exact g
 ·cases g
theorem pT{E:Env} : ∀{n m:Nat},n<=m->Gt (eJ E n) (eJ E m)
 |0,_,_=>fun g xs h r j=>by simp [eJ]at j
 |n+1,0,hn=>JF
 |n+1,m+1,hn=>fun g xs h r j=>by
  have q:=pT (E:=E) (GC hn);have l:=GC hn;rw [jU]at j⊢;split at j
  ·rename_i fn hf;split at j
   ·rename_i c z;split at j
    ·split at j
     ·rename_i vs h' p;simp only [xD q l p];exact j
     ·cases j
    ·split at j
     ·rename_i y;rw [if_pos y];split at j
      ·rename_i vs h' p;simp only [xD q l p];exact j
      ·cases j
     ·cases j
   ·cases j
  ·cases j
def FF.forget(F:FF):List Nat->FF
 | []=>F
 |s::r=>FF.forget {tm:=(F.clr s).tm,lv:=fun k=>if k=s then none else F.lv k } r
def FF.start(E:Env)(f:FuncId)(ops:List Oper)(draw:Bool)(F:FF):FF:=if draw then F.forget (ops.filterMap (Rg E f))else F
theorem Y7: ∀(l:List Nat)(g:Fr),(g.forget l).ff=g.ff.forget l
 | [],_=>rfl
 |s::r,g=>by
  unfold Fr.forget FF.forget
  rw [Y7 r]
  congr 1
  simp only [Fr.ff,FF.clr]
  congr 1
  ·funext k;rw [PT.get_filt];cases g.tm.get k<;>rfl
  ·funext k;rw [PT.get_set]
theorem a6C(g:Fr)(ops:List Oper)(draw:Bool):(g.start E f ops draw).ff=g.ff.start E f ops draw:=by
 unfold Fr.start FF.start
 split
 ·exact Y7 _ _
 ·rfl
end
def aL(E:Env)(g:FuncId)(xs:Y14)(h:Heap)(Q:IV->Heap->Prop):Prop:= ∃n v h',eJ E n g xs h=some (v,h')/\Q v h'
abbrev Ps:=List (Nat×(Heap->Prop))
def Pok:Pd->Ps->Prop
 | [],[]=>True
 |p::r,q::s=>(p.1=q.1/\∀h2,q.2 h2->p.2 h2=true)/\Pok r s
 |_,_=>False
def Yc(ps:Ps)(b:Nat)(h:Heap):Prop:= ∀q∈ps,b.testBit q.1=true\/q.2 h
theorem Pok.all: ∀{g:Pd}{ps:Ps}{b:Nat}{h:Heap},Pok g ps->Yc ps b h->g.all (fun p=>b.testBit p.1||p.2 h)=true
 | [],[],_,_,_,_=>rfl
 |p::r,q::s,b,h,hp,hw=>by
  rw [EL,AD,CJ];refine⟨?_,Pok.all hp.2 fun x j=>hw x (BK _ j)⟩;rw [hp.1.1];rcases hw q AY with z|z
  ·exact .inl z
  ·exact .inr (hp.1.2 h z)
 | [],_::_,_,_,hp,_=>hp.elim
 |_::_,[],_,_,hp,_=>hp.elim
def J3(E:Env)(f:FuncId)(ops:List Oper)(draw:Bool)(bef:Nat->Nat)(p:List Nat)(rs:Nat->Y10)(l:List (Oper×Nat))(m:Met)(ps:Ps)(F:FF)(h:Heap)(Q:FF->Heap->Prop):Prop:=
 ∀(g:Fr)(j:Pd),Pok j ps->g.ff=F-> ∃n fr' h',nP E f (eJ E n) ops draw bef p rs l m j g h=some (fr',h')/\Q fr'.ff h'
def bQ(E:Env)(f:FuncId)(c:Code)(F:FF)(h:Heap)(Q:Ex->FF->Heap->Prop):Prop:=
 ∀fr:Fr,fr.ff=F-> ∃n x fr' h',dS E f (eJ E n) n c fr h=some (x,fr',h')/\Q x fr'.ff h'
section
variable {E:Env} {f:FuncId}
theorem bQ.mono{c:Code}{F:FF}{h:Heap}{Q R:Ex->FF->Heap->Prop}(a:bQ E f c F h Q)(l: ∀x F' h',Q x F' h'->R x F' h'):bQ E f c F h R:=fun j hf=>by
 obtain⟨n,x,g,h',h1,h2⟩:=a j hf;exact⟨n,x,g,h',h1,l _ _ _ h2⟩
theorem bQ.up{c:Code}{g:Fr}{h:Heap}{n m:Nat}(j:n<=m){r:Ex×Fr×Heap}(h1:dS E f (eJ E n) n c g h=some r):dS E f (eJ E m) m c g h=some r:=
 uJ (pT j) j h1
theorem bQ.skip{F:FF}{h:Heap}{Q:Ex->FF->Heap->Prop}(g:Q .normal F h):bQ E f .skip F h Q:=fun j hf=>⟨0,_,_,_,rfl,by rw [hf];exact g⟩
theorem bQ.exit{id:Nat}{F:FF}{h:Heap}{Q:Ex->FF->Heap->Prop}(g:Q (.exit id) F h):bQ E f (.exit id) F h Q:=fun j hf=>⟨0,_,_,_,rfl,by rw [hf];exact g⟩
theorem bQ.ret{F:FF}{h:Heap}{Q:Ex->FF->Heap->Prop}(g:Q .ret F h):bQ E f .ret F h Q:=fun j hf=>⟨0,_,_,_,rfl,by rw [hf];exact g⟩
theorem bQ.seq{a b:Code}{F:FF}{h:Heap}{Q:Ex->FF->Heap->Prop}(r:bQ E f a F h fun x p h'=>match x with| .normal=>bQ E f b p h' Q|x=>Q x p h'):bQ E f (.seq a b) F h Q:=fun q hf=>by
 obtain⟨n,x,g,h1,r1,l⟩:=r q hf
 cases x with
 |normal=>
  obtain⟨m,y,j,h2,r2,z⟩:=l g rfl;refine⟨max n m,y,j,h2,?_,z⟩;simp only [dS,bQ.up (HZ n m) r1];exact bQ.up (GG n m) r2
 |exit id=>exact⟨n,_,g,h1,by simp only [dS,r1],l⟩
 |ret=>exact⟨n,_,g,h1,by simp only [dS,r1],l⟩
theorem bQ.cond{x:Operand}{b:Bool}{c d:Code}{F:FF}{h:Heap}{Q:Ex->FF->Heap->Prop}(q:aX E F.tm x=some (.v (.bool b)))(p:b=true->bQ E f c F h Q)(hd:b=false->bQ E f d F h Q):
  bQ E f (.cond x c d) F h Q:=fun l hf=>by
 have j:aX E l.tm.get x=some (.v (.bool b)):=by rw [<-q,<-hf];rfl
 cases b with
 |true=>
  obtain⟨n,y,g,h1,r1,m⟩:=p rfl l hf;exact⟨n,y,g,h1,by simp only [dS,j,r1],m⟩
 |false=>
  obtain⟨n,y,g,h1,r1,m⟩:=hd rfl l hf;exact⟨n,y,g,h1,by simp only [dS,j,r1],m⟩
theorem bQ.block{id:Nat}{c:Code}{F:FF}{h:Heap}{Q:Ex->FF->Heap->Prop}(p:bQ E f c F h fun x l h'=>match x with| .exit id'=>if id'=id then Q .normal l h' else Q (.exit id') l h'|x=>Q x l h'):bQ E f (.block id c) F h Q:=fun m hf=>by
 obtain⟨n,x,g,h1,r1,j⟩:=p m hf
 cases x with
 |normal=>exact⟨n,_,g,h1,by simp only [dS,r1],j⟩
 |ret=>exact⟨n,_,g,h1,by simp only [dS,r1],j⟩
 |exit id'=>
  simp only at j
  by_cases hid:id'=id
  ·rw [if_pos hid]at j;exact⟨n,.normal,g,h1,by simp only [dS,r1,if_pos hid],j⟩
  ·rw [if_neg hid]at j;exact⟨n,.exit id',g,h1,by simp only [dS,r1,if_neg hid],j⟩
theorem bQ.scope{c:Code}{F:FF}{h:Heap}{Q:Ex->FF->Heap->Prop}(l:bQ E f c F h Q):bQ E f (.scope c) F h Q:=fun j hf=>by
 obtain⟨n,x,g,h1,r1,m⟩:=l j hf;exact⟨n,x,g,h1,by simp only [dS,r1],m⟩
theorem bQ.loop{c:Code}{F:FF}{h:Heap}{Q:Ex->FF->Heap->Prop}(K:bQ E f c F h fun x z h'=>match x with| .normal=>bQ E f (.loop c) z h' Q|x=>Q x z h'):bQ E f (.loop c) F h Q:=fun A hf=>by
 obtain⟨n,x,j,h1,r1,r⟩:=K A hf;have l: ∀(y:Ex)(g:Fr)(h2:Heap)(k:Nat),n<=k->(∀p h',(some (x,j,h1):Option (Ex×Fr×Heap))=some (.normal,p,h')->kE (dS E f (eJ E (k+1)) (k+1) c) k p h'=some (y,g,h2))->(x≠ .normal->y=x/\g=j/\h2=h1)->
   dS E f (eJ E (k+1)) (k+1) (.loop c) A h=some (y,g,h2):=by
  intro y g h2 k L O G;simp only [dS];unfold kE
  rw [bQ.up (FY L) r1]
  cases x with
  |normal=>exact O _ _ rfl
  |exit id=>obtain⟨rfl,rfl,rfl⟩:=G JH;rfl
  |ret=>obtain⟨rfl,rfl,rfl⟩:=G JH;rfl
 cases x with
 |normal=>
  obtain⟨m,y,g,h2,r2,R⟩:=r j rfl;refine⟨max n m+1,y,g,h2,l y g h2 _ (HZ n m) (fun p h' e=>?_) (fun e=>absurd rfl e),R⟩
  cases e
  simp only [dS]at r2;have D:m<=max n m+1:=FY (GG n m);exact rL (fun _ _ _ q=>uJ (pT D) D q) (GG n m) r2
 |exit id=>exact⟨n+1,_,j,h1,l _ _ _ n (AG n) (fun _ _ e=>by cases e) (fun _=>⟨rfl,rfl,rfl⟩),r⟩
 |ret=>exact⟨n+1,_,j,h1,l _ _ _ n (AG n) (fun _ _ e=>by cases e) (fun _=>⟨rfl,rfl,rfl⟩),r⟩
theorem bQ.region{id:Nat}{ops:Array Oper}{draw:Bool}{F:FF}{h:Heap}{Q:Ex->FF->Heap->Prop}(m:J3 E f ops.toList draw (J7 ops) (E.an f id) (Sb h.next (E.an f id)) (B5 (E.od f id) draw ops.toList) {} [] (F.start E f ops.toList draw) (h.reserve (E.an f id).length) fun j h'=>Q .normal j h'):bQ E f (.region id ops draw) F h Q:=fun l hf=>by
 obtain⟨n,g,h1,r1,p⟩:=m (l.start E f ops.toList draw) [] trivial (by rw [a6C,hf]);exact⟨n,_,g,h1,by simp only [dS,r1],p⟩
theorem J3.nil{ops:List Oper}{draw:Bool}{bef:Nat->Nat}{g:List Nat}{rs:Nat->Y10}{m:Met}{ps:Ps}{F:FF}{h:Heap}{Q:FF->Heap->Prop}(l:Q F h):J3 E f ops draw bef g rs [] m ps F h Q:=fun j q p hf=>⟨0,j,h,rfl,by rw [hf];exact l⟩
def qP(h:Heap)(id k:Nat):Option IV:=match h.get id with
 | .cells cs=>cs[k]?
 |_=>none
def b1I(h h2:Heap)(id k:Nat):Prop:=qP h2 id k=qP h id k
def psQ(E:Env)(o:Oper)(ev:Operand->Option TV)(h h2:Heap):Prop:=match o.op with
 | .load t a=>match ev a with
  |some (.v (.ptr id off))=>match gJ E.P t with
   |some (false,_)=>b1I h h2 id off
   |_=>nQ h h2 (some id)
  |_=>True
 |_=>nQ h h2 (kS o ev)
theorem d0D{E:Env}{o:Oper}{ev:Operand->Option TV}{h h2:Heap}{v:TV}(j:dR E o ev h=some v)(g:psQ E o ev h h2):dR E o ev h2=some v:=by
 unfold psQ at g;split at g
 ·rename_i t a l;split at g
  ·rename_i id A q;split at g
   ·rename_i n p;unfold dR at j⊢;simp only [l,q]at j⊢;unfold b1I qP at g;split at j
    ·rename_i cs r;rw [r]at g;simp only [fJ,p]at j⊢;obtain⟨w,z,rfl⟩:=AE.1 j;simp only at g;rw [z]at g;split at g
     ·rename_i c2 m;simp only [m,g,DE]
     ·cases g
    ·cases j
   ·refine B8 j ?_;unfold kS
    simp only [l,q];exact g
  ·rename_i y;unfold dR at j;simp only [l]at j
   cases j
 ·exact B8 j g
def Aw(E:Env)(o:Oper)(ev:Operand->Option TV)(e:Ef)(i:Nat)(ps:Ps):Ps:=match e.c with
 | .r=>(i,fun h2=>psQ E o ev e.h h2)::ps
 |_=>ps
theorem Zt{cf:FuncId->Y14->Heap->Option (IV×Heap)}{draw:Bool}{o:Oper}{ev:Operand->Option TV}{lv:Nat->Option (Y14)}{h:Heap}{e:Ef}(j:eB E f cf draw o ev lv h=some e)(l:e.c= .r):
  e.h=h/\∃v,dR E o ev h=some v/\e.v=some v:=by
 unfold eB at j;split at j
 ·repeat' split at j
  all_goals first
   | (cases j;done)
   | (cases j;cases l)
 ·split at j
  ·cases j;cases l
  ·split at j
   ·cases j;cases l
   ·split at j
    ·rename_i v m
     cases j
     exact⟨rfl,v,m,rfl⟩
    ·split at j
     ·cases j;cases l
     ·split at j
      ·split at j
       ·cases j
        rename_i g xs _ _ _ _ _;simp only [rC]at l;split at l<;>cases l
       ·cases j
      ·cases j
theorem Pok.add{cf:FuncId->Y14->Heap->Option (IV×Heap)}{draw:Bool}{ops:List Oper}{rs:Y10}{o:Oper}{j:Nat->Option TV}{lv:Nat->Option (Y14)}{h:Heap}{e:Ef}{i:Nat}{m:Pd}{ps:Ps}(g:dJ E f cf ops draw rs o j lv h=some e)(q:Pok m ps):
  Pok (nN E o (aX E j) e i m) (Aw E o (aX E j) e i ps):=by
 by_cases hc:e.c= .r
 ·unfold nN Aw
  rw [hc];refine⟨⟨rfl,fun h2 y=>?_⟩,q⟩
  cases rs with
  |some n=>
   exfalso;rcases zX g with rfl| ⟨v,ha,rfl⟩| ⟨v,x,ha,_,rfl⟩<;>cases hc
  |none=>
  have g:vU E f cf ops draw o j lv h=some e:=g;unfold vU at g;split at g
  ·cases g
  ·cases g;cases hc
  ·obtain⟨p,v,l,z⟩:=Zt g hc;rw [p]at y;have A:=d0D l y;obtain⟨x,rfl⟩:=b0K l;simp only [A,z,c1T];exact A2 x
 ·have p:nN E o (aX E j) e i m=m:=by
   unfold nN
   split
   ·rename_i h;exact absurd h hc
   ·rfl
  have l:Aw E o (aX E j) e i ps=ps:=by
   unfold Aw
   split
   ·rename_i h;exact absurd h hc
   ·rfl
  rw [p,l];exact q
theorem J3.cons{ops:List Oper}{draw:Bool}{bef:Nat->Nat}{p:List Nat}{rs:Nat->Y10}{o:Oper}{i:Nat}{l:List (Oper×Nat)}{m:Met}{ps:Ps}{F:FF}{h:Heap}{Q:FF->Heap->Prop}
  (he: ∃n e,dJ E f (eJ E n) ops draw (rs i) o F.tm F.lv h=some e/\(draw=false\/ ((kJ (m.chk e.c) (bef i)=true\/e.c= .e/\kJ (m.e|||m.a) (bef i)=true/\Yc ps (bef i) e.h)/\Fo p rs m (bef i) (kS o (aX E F.tm)) e.c=true))/\J3 E f ops draw bef p rs l (m.add e.c i) (Aw E o (aX E F.tm) e i ps) (F.app o.dst e) e.h Q):
  J3 E f ops draw bef p rs ((o,i)::l) m ps F h Q:=fun g A y hf=>by
 obtain⟨n,e,h1,h2,h3⟩:=he;have j:dJ E f (eJ E n) ops draw (rs i) o g.tm.get g.lv.get h=some e:=by rw [<-h1,<-hf];rfl
 have hev:aX E F.tm=aX E g.tm.get:=by rw [<-hf];rfl
 rw [hev]at h2 h3;obtain⟨k,q,h',h4,D⟩:=h3 (g.app o.dst e) (nN E o (aX E g.tm.get) e i A) (Pok.add j y) (by rw [a6B,hf]);refine⟨max n k,q,h',?_,D⟩;unfold nP
 have r:(!draw||okB p rs m A (bef i) (kS o (aX E g.tm.get)) e)=true:=by
  rw [CJ];rcases h2 with z| ⟨z,O⟩
  ·exact .inl (by rw [z];rfl)
  ·refine .inr ?_;unfold okB
   rw [AD,CJ];refine⟨?_,O⟩;rcases z with z| ⟨G,K,L⟩
   ·exact .inl z
   ·refine .inr ?_;unfold Su
    simp only [G,K,BC];exact Pok.all y L
 simp only [Y1 (pT (HZ n k)) j,r,if_true];exact tF (pT (GG n k)) h4
end
structure GF where
 tm:PT (Option TV)
 lv:PT (Option (Y14))
 b:FF
def FF.none:FF:=⟨fun _=>Option.none,fun _=>Option.none⟩
def GF.tmg(F:GF)(k:Nat):Option TV:=match F.tm.get k with
 |some x=>x
 |none=>F.b.tm k
def GF.lvg(F:GF)(k:Nat):Option (Y14):=match F.lv.get k with
 |some x=>x
 |none=>F.b.lv k
def GF.ff(F:GF):FF:=⟨F.tmg,F.lvg⟩
def GF.put(F:GF)(d:Option Tmp)(v:Option TV):GF:=match d with
 |some t=> {F with tm:=F.tm.set t (some v) }
 |none=>F
def GF.lset(F:GF)(s:Nat)(cs:Option (Y14)):GF:= {F with lv:=F.lv.set s (some cs) }
def Vk(s:Nat):Option TV->Option TV
 |some y=>if tC s y then some y else none
 |none=>none
def PT.mapv{α:Type}(g:α->α):PT α->PT α
 | .nil=> .nil
 | .node l v r=> .node (l.mapv g) (match v with|some x=>some (g x)|none=>none) (r.mapv g)
def GF.clr(F:GF)(s:Nat):GF:= {F with tm:=F.tm.mapv (Vk s),b:=F.b.clr s }
def GF.app(F:GF)(d:Option Tmp)(e:Ef):GF:=match e.loc with
 |some (s,cs)=>match e.box with
  |true=>((F.clr s).lset s (some cs)).put d e.v
  |false=>(F.put d e.v).lset s (some cs)
 |none=>F.put d e.v
def GF.forget(F:GF):List Nat->GF
 | []=>F
 |s::r=>GF.forget ((F.clr s).lset s none) r
def GF.start(E:Env)(f:FuncId)(ops:List Oper)(draw:Bool)(F:GF):GF:=match draw with
 |true=>F.forget (ops.filterMap (Rg E f))
 |false=>F
structure Sp where
 br:Bool->Prop->Prop->Prop
 need:Bool->Prop->Prop
 ldI:IntKind->Y14->Nat->(Int->Prop)->Prop
 ldB:Y14->Nat->(Bool->Prop)->Prop
 ldS:Y14->Nat->(Y11->Prop)->Prop
 ldV:Nat->Y14->Nat->(Y10->Nat->Nat->Y14->Prop)->Prop
 ldA:Y14->Nat->(IV->Prop)->Prop
 chr:Y11->Nat->(Int->Prop)->Prop
 hget:Heap->Nat->(Y14->Prop)->Prop
 tip:Heap->Nat->(Nat->Prop)->Prop
 call:FuncId->Y14->Heap->(IV->Heap->Prop)->Prop
 ldNV:Nat->Y14->Nat->Prop->(Nat->Nat->Nat->Y14->Prop)->Prop
 ldNH:Nat->Y14->Nat->Prop->(Nat->Nat->Nat->Prop)->Prop
 mlook:Heap->Nat->TypeDesc->IV->(Y14->Prop)->Prop->Prop
 mupd:Heap->Nat->TypeDesc->IV->IV->(List (IV×IV)->Prop)->Prop
 byt:Y14->(Y11->Prop)->Prop
 ldM:Y14->Nat->(Nat->Prop)->Prop
 ldP:Y14->Nat->(Nat->Nat->Prop)->Prop
 app:Heap->Nat->Nat->IV->Nat->Y14->(Nat->Nat->Nat->Y14->Heap->Prop)->Prop
 fre:Heap->Nat->Prop->Prop
 ent:Heap->Nat->TypeDesc->IV->IV->(IV->Nat->List (IV×IV)->Prop)->Prop
 mput:Heap->Nat->Int->IV->(List (IV×IV)->Prop)->Prop
 ldNM:Y14->Nat->Prop->(Nat->Prop)->Prop
 ldG:Nat->Y14->Nat->(Y14->Prop)->Prop
def aI(b:Bool)(A B:Prop):Prop:=match b with
 |true=>A
 |false=>B
def aC(b:Bool)(A:Prop):Prop:=match b with
 |true=>A
 |false=>False
def aG(k:IntKind)(cs:Y14)(g:Nat)(K:Int->Prop):Prop:=match cs[g]? with
 |some (.int k' n)=>if k'=k then K n else False
 |_=>False
def rE(cs:Y14)(g:Nat)(K:Bool->Prop):Prop:=match cs[g]? with
 |some (.bool b)=>K b
 |_=>False
def W7(cs:Y14)(g:Nat)(K:Y11->Prop):Prop:=match cs[g]? with
 |some (.str b)=>K b
 |_=>False
def aZ(sz:Nat)(cs:Y14)(g:Nat)(K:Y10->Nat->Nat->Y14->Prop):Prop:=match cs[g]? with
 |some (.vslice id e len z cs')=>if z=sz then K id e len cs' else False
 |_=>False
def c9I(cs:Y14)(g:Nat)(K:IV->Prop):Prop:=match cs[g]? with
 |some v=>K v
 |none=>False
def nC(s:Y11)(i:Nat)(K:Int->Prop):Prop:=match s[i]? with
 |some b=>K b.toNat
 |none=>False
def aJ(h:Heap)(id:Nat)(K:Y14->Prop):Prop:=match h.get id with
 | .cells cs=>K cs
 |_=>False
def cF(h:Heap)(id:Nat)(K:Nat->Prop):Prop:=match h.get id with
 | .tip m=>K m
 |_=>False
def vE(sz:Nat)(cs:Y14)(g:Nat)(A:Prop)(K:Nat->Nat->Nat->Y14->Prop):Prop:=match cs[g]? with
 |some .nilslice=>A
 |some (.vslice (some id) e len z cs')=>if z=sz then K id e len cs' else False
 |_=>False
def vD(sz:Nat)(cs:Y14)(g:Nat)(A:Prop)(K:Nat->Nat->Nat->Prop):Prop:=match cs[g]? with
 |some .nilslice=>A
 |some (.hslice id o len z)=>if z=sz then K id o len else False
 |_=>False
def gC(h:Heap)(id:Nat)(d:TypeDesc)(g:IV)(K:Y14->Prop)(A:Prop):Prop:=match h.get id with
 | .map es=>match fE d g es with
  |some (some v)=>K [v]
  |some none=>A
  |none=>False
 |_=>False
def lU(h:Heap)(id:Nat)(d:TypeDesc)(g v:IV)(K:List (IV×IV)->Prop):Prop:=match h.get id with
 | .map es=>match nT d g v es with
  |some es'=>K es'
  |none=>False
 |_=>False
def a3T(cs:Y14)(K:Y11->Prop):Prop:=match jH cs with
 |some b=>K b
 |none=>False
def oZ(cs:Y14)(g:Nat)(K:Nat->Prop):Prop:=match cs[g]? with
 |some (.map id)=>K id
 |_=>False
def d6G(cs:Y14)(g:Nat)(K:Nat->Nat->Prop):Prop:=match cs[g]? with
 |some (.ptr id o)=>K id o
 |_=>False
def gH(h:Heap)(sz g:Nat)(s:IV)(n:Nat)(xs:Y14)(K:Nat->Nat->Nat->Y14->Heap->Prop):Prop:=match s with
 | .nilslice=>n*g<=140737488355328/\K h.next (n*sz) n xs (h.push (.tip (n*sz)))
 | .vslice none 1 len z cs=>(z=sz/\(len+n)*g<=140737488355328)/\K h.next ((len+n)*sz) (len+n) (cs++xs) (h.push (.tip ((len+n)*sz)))
 | .vslice (some id) e len z cs=>(z=sz/\(len+n)*g<=140737488355328/\h.get id= .tip e)/\K id (e+n*sz) (len+n) (cs++xs) (h.set id (.tip (e+n*sz)))
 |_=>False
def Pg(h:Heap)(n:Nat)(A:Prop):Prop:=match h.get n with
 | .free=>A
 |_=>False
def d5V(h:Heap)(id:Nat)(d:TypeDesc)(g z:IV)(K:IV->Nat->List (IV×IV)->Prop):Prop:=match h.get id with
 | .map es=>match a5V d g z es with
  |some r=>K r.1 r.2.1 r.2.2
  |none=>False
 |_=>False
def Im(n:Nat)(cs:Y14)(g:Nat)(K:Y14->Prop):Prop:=match cs[g]? with
 |some (.agg xs)=>match Nat.beq xs.length n with
  |true=>K xs
  |false=>False
 |_=>False
def P7(cs:Y14)(g:Nat)(A:Prop)(K:Nat->Prop):Prop:=match cs[g]? with
 |some .nilmap=>A
 |some (.map id)=>K id
 |_=>False
def c4X(h:Heap)(id:Nat)(n:Int)(v:IV)(K:List (IV×IV)->Prop):Prop:=match h.get id with
 | .map es=>(0<=n/\n<es.length)/\K (Ba v n.toNat es)
 |_=>False
def aR(C:FuncId->Y14->Heap->(IV->Heap->Prop)->Prop):Sp where
 br:=aI
 need:=aC
 ldI:=aG
 ldB:=rE
 ldS:=W7
 ldV:=aZ
 ldA:=c9I
 chr:=nC
 hget:=aJ
 tip:=cF
 call:=C
 ldNV:=vE
 ldNH:=vD
 mlook:=gC
 mupd:=lU
 byt:=a3T
 ldM:=oZ
 ldP:=d6G
 app:=gH
 fre:=Pg
 ent:=d5V
 mput:=c4X
 ldNM:=P7
 ldG:=Im
structure Inv1 where
 X:Type
 slots:X->List (Nat×TV)
 locs:X->List (Nat×Y14)
 hp:X->Heap
 cond:X->Prop
 meas:X->Nat
 get:GF->Heap->Option X
def Ks:List (Nat×TV)->PT (Option TV)
 | []=> .nil
 | (s,v)::r=>(Ks r).set s (some (some v))
def It:List (Nat×Y14)->PT (Option (Y14))
 | []=> .nil
 | (s,v)::r=>(It r).set s (some (some v))
def vQ(F:GF):List (Nat×TV)->Prop->Prop
 | [],A=>A
 | (s,v)::r,A=>F.tmg s=some v/\vQ F r A
def vP(F:GF):List (Nat×Y14)->Prop->Prop
 | [],A=>A
 | (s,v)::r,A=>F.lvg s=some v/\vP F r A
inductive Inv' where
 |one (v:Inv1)
 |ex (v:Inv1)
 |or (a b:Inv')
def Inv'.J:Inv'->GF->Heap->(Nat->Prop)->Prop
 | .one v,F,h,P=>match v.get F h with
  |some x=>vQ F (v.slots x) (vP F (v.locs x) (h=v.hp x/\v.cond x/\P (v.meas x)))
  |none=>False
 | .ex v,F,h,P=> ∃x:v.X,vQ F (v.slots x) (vP F (v.locs x) (h=v.hp x/\v.cond x/\P (v.meas x)))
 | .or a b,F,h,P=>a.J F h P\/b.J F h P
def Inv'.I:Inv'->(GF->Heap->Nat->Prop)->Prop
 | .one v,K=> ∀(x:v.X)(b:FF),v.cond x->K ⟨Ks (v.slots x),It (v.locs x),b⟩ (v.hp x) (v.meas x)
 | .ex v,K=> ∀(x:v.X)(b:FF),v.cond x->K ⟨Ks (v.slots x),It (v.locs x),b⟩ (v.hp x) (v.meas x)
 | .or a b,K=>a.I K/\b.I K
section
variable (S:Sp) (E:Env) (f:FuncId)
def ldC(j:CK)(cs:Y14)(g:Nat)(K:IV->Prop):Prop:=match j with
 | .int k=>S.ldI k cs g fun n=>K (.int k n)
 | .bool=>S.ldB cs g fun b=>K (.bool b)
 | .str=>S.ldS cs g fun s=>K (.str s)
 | .slc sz=>S.ldV sz cs g fun id e len c=>K (.vslice id e len sz c)
 | .any=>S.ldA cs g K
def Rc:List CK->Y14->Nat->(Y14->Prop)->Prop
 | [],_,_,K=>K []
 |ck::r,cs,off,K=>ldC S ck cs off fun v=>Rc r cs (off+1) fun vs=>K (v::vs)
def ldK(t:TypeId)(cs:Y14)(g:Nat)(K:IV->Prop):Prop:=match gJ E.P t with
 |some (false,_)=>ldC S (G5 E.P t) cs g K
 |some (true,n+1)=>match Nat.beq (vB E.P 8 t).length (n+1)with
  |true=>Rc S (vB E.P 8 t) cs g fun vs=>K (.agg vs)
  |false=>False
 |_=>False
def ldE(t:TypeId)(r:Y14)(K:IV->Prop):Prop:=match gJ E.P t with
 |some (true,n+1)=>match Nat.beq (vB E.P 8 t).length (n+1)with
  |true=>S.ldG (n+1) r 0 fun xs=>Rc S (vB E.P 8 t) xs 0 fun vs=>K (.agg vs)
  |false=>ldC S (G5 E.P t) r 0 K
 |_=>ldC S (G5 E.P t) r 0 K
def b7Z:Nat->List CK
 |0=>[]
 |n+1=> .any::b7Z n
def ldW(d:Option Tmp)(t:TypeId)(cs:Y14)(g:Nat)(K:IV->Prop):Prop:=match d with
 |some s=>match E.ld f s with
  |true=>match gJ E.P t with
   |some (false,_)=>S.ldA cs g K
   |some (true,n+1)=>Rc S (b7Z (n+1)) cs g fun vs=>K (.agg vs)
   |_=>False
  |false=>match E.ln f s with
   |0=>ldK S E t cs g K
   |1=>match gJ E.P t,G5 E.P t with
    |some (false,_),.slc sz=>S.ldNV sz cs g (K .nilslice) fun id e len c=>K (.vslice (some id) e len sz c)
    |_,_=>False
   |3=>match gJ E.P t with
    |some (false,_)=>S.ldM cs g fun id=>K (.map id)
    |_=>False
   |4=>match gJ E.P t with
    |some (false,_)=>S.ldP cs g fun id o=>K (.ptr id o)
    |_=>False
   |5=>match gJ E.P t,G5 E.P t with
    |some (false,_),.slc sz=>S.ldNH sz cs g False fun id o len=>K (.hslice id o len sz)
    |_,_=>False
   |6=>match gJ E.P t with
    |some (false,_)=>S.ldNM cs g (K .nilmap) fun id=>K (.map id)
    |_=>False
   |_=>match gJ E.P t,G5 E.P t with
    |some (false,_),.slc sz=>S.ldNH sz cs g (K .nilslice) fun id o len=>K (.hslice id o len sz)
    |_,_=>False
 |none=>ldK S E t cs g K
def stK(t:TypeId)(cs:Y14)(g:Nat)(v:IV)(K:Y14->Prop):Prop:=match gP E.P t,rH v with
 |some n,true=>match Nat.beq (cellsOf v).length n with
  |true=>S.need (Nat.ble (g+n) cs.length) (K (cs.take g++cellsOf v++cs.drop (g+n)))
  |false=>False
 |_,_=>False
def uA(P:Program):List Field->Y14->Y14->Option Bool
 | [],_,_=>some true
 |f::fs,xs,ys=>
  if f.name == "_" then none else
  match P.underlying f.type,xs[f.offset]?,ys[f.offset]? with
  |some d,some x,some y=>match dH d x y,uA P fs xs ys with
   |some b,some c=>some (b&&c)
   |_,_=>none
  |_,_,_=>none
def Uq(t:TypeId)(xs g:Y14):Option Bool:=match E.P.underlying t with
 |some (.struct fs)=>match E.P.stoodInHeld t||E.P.eqGuardType E.P.depth t with
  |true=>none
  |false=>uA E.P fs.toList xs g
 |_=>none
def c6S(op:BinOp)(c:Bool)(t:TypeId)(a b:IV)(K:IV->Prop):Prop:=match a,b with
 | .int k x,.int k' y=>match op with
  | .quo=>if k=k' then S.need (!(y==0)) (K (.int k (k.wrap (x.tdiv y))))else False
  | .rem=>if k=k' then S.need (!(y==0)) (K (.int k (x.tmod y)))else False
  | .shl=>S.need (decide (0<=y)) (K (.int k (k.wrap (x*2^ (min y.toNat k.bits)))))
  | .shr=>S.need (decide (0<=y)) (K (.int k (x.fdiv (2^ (min y.toNat k.bits)))))
  |op=>match(if k=k' then sX op k x y else none)with
   |some v=>K v
   |none=>False
 | .str x,.str y=>match op with
  | .add=>S.need (Nat.ble (x.length+y.length) 9223372036854775807) (K (.str (x++y)))
  |op=>match T2 op x y with
   |some v=>K v
   |none=>False
 | .agg xs,.agg ys=>match op with
  | .eql=>match Uq E t xs ys with
   |some b=>K (.bool b)
   |none=>False
  | .neq=>match Uq E t xs ys with
   |some b=>K (.bool (!b))
   |none=>False
  |_=>False
 |x,y=>match oI E.P op c t x y with
  |some v=>K v
  |none=>False
def Zo(len:Nat)(j g:Option (Option TV))(K:Int->Int->Prop):Prop:=
 match(match j with|none=>some (0:Int)|some x=>W3 x),(match g with|none=>some (len:Int)|some x=>W3 x)with
 |some l,some h=>S.need (decide (0<=l) && (decide (l<=h) &&decide (h<=len))) (K l h)
 |_,_=>False
def d6M:FuncId->Y14->Heap->Option (IV×Heap):=fun _ _ _=>none
def M5(draw:Bool)(o:Oper)(F:GF)(h:Heap)(K:GF->Ef->Prop):Prop:=match eB E f d6M draw o (aX E F.tmg) F.lvg h with
 |some e=>K F e
 |none=>False
def Hb(c:Operand)(F:GF)(x:Bool):GF:=match c with
 | .tmp t=>F.put (some t) (some (.v (.bool x)))
 |_=>F
def b1N(h:Heap)(sz:Nat)(x:IV)(K:Nat->Y14->Prop):Prop:=match x with
 | .nilslice=>K 0 []
 | .vslice _ _ len z cs=>match Nat.beq z sz with
  |true=>K len cs
  |false=>False
 | .hslice id off len z=>match Nat.beq z sz with
  |true=>S.hget h id fun cs=>S.need (Nat.ble (off+len*sz) cs.length) (K len ((cs.drop off).take (len*sz)))
  |false=>False
 | .str s=>match Nat.beq sz 1 with
  |true=>K s.length (s.map fun b=> .int .u8 b.toNat)
  |false=>False
 |_=>False
def c6P(h:Heap)(j sz g:Nat)(s x:IV)(K:IV->Heap->Prop):Prop:=b1N S h sz x fun n xs=>
 S.br (Nat.beq n 0)
  (match s with
   | .nilslice=>K .nilslice h
   | .vslice id e len z cs=>match Nat.beq z sz with
    |true=>K (.vslice id e len z cs) h
    |false=>False
   | .hslice id off len z=>match Nat.beq z sz with
    |true=>K (.hslice id off len z) h
    |false=>False
   |_=>False)
  (match s with
   | .nilslice=>S.need (Nat.ble (n*g) 140737488355328) (K (newRow h j n sz xs).1 (newRow h j n sz xs).2)
   | .vslice none 1 len z cs=>match Nat.beq z sz with
    |true=>S.need (Nat.ble ((len+n)*g) 140737488355328) (K (newRow h j (len+n) sz (cs++xs)).1 (newRow h j (len+n) sz (cs++xs)).2)
    |false=>False
   | .vslice (some id) e len z cs=>match Nat.beq z sz with
    |true=>S.tip h id fun m=>S.need (Nat.beq m e&&Nat.ble ((len+n)*g) 140737488355328) (K (.vslice (some id) (e+n*sz) (len+n) sz (cs++xs)) (h.set id (.tip (e+n*sz))))
    |false=>False
   | .hslice id off len z=>match Nat.beq z sz with
    |true=>S.hget h id fun cs=>S.need (Nat.beq off 0&& (Nat.ble (len*sz) cs.length&&Nat.ble ((len+n)*g) 140737488355328)) (K (.hslice h.next 0 (len+n) sz) ((h.set id .dead).push (.cells (cs.take (len*sz)++xs))))
    |false=>False
   |_=>False)
def a3J(h:Heap)(j sz g:Nat)(s x:IV)(K:IV->Heap->Prop):Prop:=match Nat.beq j 0 with
 |true=>b1N S h sz x fun n xs=>match n with
  |0=>False
  |n+1=>S.app h sz g s (n+1) xs fun id e len cs h2=>K (.vslice (some id) e len sz cs) h2
 |false=>False
def L5(g:FuncId)(xs:Y14):Y14:=match E.iso g with
 |true=>match E.P.funcs[g]? with
  |some fn=>iX E.P fn.params.toList xs
  |none=>xs
 |false=>match E.nr g with
  |true=>match E.P.funcs[g]? with
   |some fn=>iX E.P fn.params.toList xs
   |none=>xs
  |false=>xs
def opW(draw:Bool)(o:Oper)(F:GF)(h:Heap)(K:GF->Ef->Prop):Prop:=match o.op with
 | .move x=>match c9R E f o with
  |true=>match bE (aX E F.tmg x)with
   |some (.hslice id off len sz)=>S.hget h id fun cs=>S.need (Nat.ble 1 sz&&Nat.ble (off+len*sz) cs.length) (K F ⟨.e,some (.v (.vslice none 0 len sz ((cs.drop off).take (len*sz)))),none,false,h.set id .dead⟩)
   |_=>False
  |false=>match aX E F.tmg x with
   |some v=>K F ⟨.p,some v,none,false,h⟩
   |none=>False
 | .pick c a b=>match aX E F.tmg c with
  |some (.v (.bool x))=>S.br x
   (match aX E F.tmg a with|some v=>K (Hb c F true) ⟨.p,some v,none,false,h⟩|none=>False)
   (match aX E F.tmg b with|some v=>K (Hb c F false) ⟨.p,some v,none,false,h⟩|none=>False)
  |_=>False
 | .binOp op t x y _=>match bE (aX E F.tmg x),bE (aX E F.tmg y)with
  |some a,some b=>c6S S E op (lN x||lN y) t a b fun v=>K F ⟨.p,some (.v v),none,false,h⟩
  |_,_=>False
 | .load t a=>match aX E F.tmg a with
  |some (.l s off)=>match F.lvg s with
   |some cs=>ldW S E f o.dst t cs off fun v=>K F ⟨.l,some (.v v),none,false,h⟩
   |none=>False
  |some (.v (.vref cs off))=>ldW S E f o.dst t cs off fun v=>K F ⟨.p,some (.v v),none,false,h⟩
  |some (.v (.ptr id off))=>S.hget h id fun cs=>ldW S E f o.dst t cs off fun v=>K F ⟨.r,some (.v v),none,false,h⟩
  |_=>False
 | .store t a x=>match aX E F.tmg a,bE (aX E F.tmg x)with
  |some (.l s off),some v=>match F.lvg s with
   |some cs=>stK S E t cs off v fun cs'=>K F ⟨.s,none,some (s,cs'),false,h⟩
   |none=>False
  |some (.v (.ptr id off)),some v=>S.hget h id fun cs=>stK S E t cs off v fun cs'=>K F ⟨.e,none,none,false,h.set id (.cells cs')⟩
  |_,_=>False
 | .indexAddr t x ix=>match W3 (aX E F.tmg ix),E.P.underlying t with
  |some i,some (.array n e)=>match gP E.P e,aX E F.tmg x with
   |some sz,some a=>S.need (decide (0<=i) &&decide (i<n)) (match mX (i.toNat*sz) a with|some v=>K F ⟨.p,some v,none,false,h⟩|none=>False)
   |_,_=>False
  |some i,some (.slice e)=>match gP E.P e,bE (aX E F.tmg x)with
   |some sz,some (.vslice _ _ len z cs)=>match Nat.beq z sz with
    |true=>S.need (decide (0<=i) &&decide (i<len)) (K F ⟨.p,some (.v (.vref cs (i.toNat*sz))),none,false,h⟩)
    |false=>False
   |some sz,some (.hslice id off len z)=>match Nat.beq z sz with
    |true=>S.need (decide (0<=i) &&decide (i<len)) (K F ⟨.p,some (.v (.ptr id (off+i.toNat*sz))),none,false,h⟩)
    |false=>False
   |_,_=>False
  |_,_=>False
 | .index t x ix=>match W3 (aX E F.tmg ix),E.P.underlying t,bE (aX E F.tmg x)with
  |some i,some (.array n e),some (.agg cs)=>match gP E.P e with
   |some sz=>S.need (decide (0<=i) &&decide (i<n)) (ldK S E e cs (i.toNat*sz) fun v=>K F ⟨.p,some (.v v),none,false,h⟩)
   |none=>False
  |some i,some .string,some (.str s)=>S.need (decide (0<=i)) (S.chr s i.toNat fun b=>K F ⟨.p,some (.v (.int .u8 b)),none,false,h⟩)
  |_,_,_=>False
 | .slice t x lo hi mx=>match mx,E.P.underlying t,bE (aX E F.tmg x)with
  |none,some .string,some (.str s)=>Zo S s.length (lo.map (aX E F.tmg)) (hi.map (aX E F.tmg)) fun l h'=>K F ⟨.p,some (.v (.str ((s.drop l.toNat).take (h'.toNat-l.toNat)))),none,false,h⟩
  |none,some (.slice e),some (.vslice id en len z cs)=>match gP E.P e with
   |some sz=>match Nat.beq z sz with
    |true=>Zo S len (lo.map (aX E F.tmg)) (hi.map (aX E F.tmg)) fun l h'=>
     K F ⟨.p,some (.v (.vslice id (en- (len-h'.toNat)*sz) (h'.toNat-l.toNat) sz ((cs.drop (l.toNat*sz)).take ((h'.toNat-l.toNat)*sz)))),none,false,h⟩
    |false=>False
   |none=>False
  |none,some (.slice e),some (.hslice id off len z)=>match gP E.P e with
   |some sz=>match Nat.beq z sz with
    |true=>Zo S len (lo.map (aX E F.tmg)) (hi.map (aX E F.tmg)) fun l h'=>K F ⟨.p,some (.v (.hslice id (off+l.toNat*sz) (h'.toNat-l.toNat) sz)),none,false,h⟩
    |false=>False
   |none=>False
  |none,some (.array n e),some (.ptr id off)=>match gP E.P e with
   |some (sz+1)=>S.hget h id fun cs=>S.need (Nat.ble (off+n*(sz+1)) cs.length) (Zo S n (lo.map (aX E F.tmg)) (hi.map (aX E F.tmg)) fun l h'=>
    K F ⟨.r,some (.v (.hslice id (off+l.toNat*(sz+1)) (h'.toNat-l.toNat) (sz+1))),none,false,h⟩)
   |_=>False
  |_,_,_=>M5 E f draw o F h K
 | .makeSlice t l c=>match E.P.underlying t,o.dst,W3 (aX E F.tmg l),W3 (aX E F.tmg c)with
  |some (.slice e),some d,some l,some c=>match gP E.P e,jI E.P e,dD E.P e with
   |some (sz+1),some bytes,some z=>match Nat.beq (cellsOf z).length (sz+1)with
    |true=>S.need (decide (0<=l) && (decide (l<=c) && (decide (c<=9223372036854775807) &&decide (bytes*c<=140737488355328))))
     (K F ⟨.e,some (.v (newRow h (1-E.A f d) l.toNat (sz+1) (dY l.toNat (cellsOf z))).1),none,false,(newRow h (1-E.A f d) l.toNat (sz+1) (dY l.toNat (cellsOf z))).2⟩)
    |false=>False
   |_,_,_=>False
  |_,_,_,_=>False
 | .call {callee:= .builtin .append,args,argTypes } =>match argTypes.toList,args.toList with
  | [t,u],[sx,xx]=>match bE (aX E F.tmg sx),bE (aX E F.tmg xx),E.P.underlying t,E.P.underlying u,o.dst with
   |some s,some x,some (.slice e),some du,some d=>match gP E.P e,jI E.P e,dD E.P e with
    |some (sz+1),some (bytes+1),some z=>match Nat.beq (cellsOf z).length (sz+1) &&mR du with
     |true=>match Nat.beq (E.ln f d) 9 with
      |true=>a3J S h (E.A f d) (sz+1) (bytes+1) s x fun v h'=>K F ⟨.e,some (.v v),none,false,h'⟩
      |false=>c6P S h (E.A f d) (sz+1) (bytes+1) s x fun v h'=>K F ⟨.e,some (.v v),none,false,h'⟩
     |false=>False
    |_,_,_=>False
   |_,_,_,_,_=>False
  |_,_=>False
 | .call {callee:= .builtin .copy,args,argTypes } =>match argTypes.toList,args.toList with
  |t::_,[sx,xx]=>match bE (aX E F.tmg sx),bE (aX E F.tmg xx),E.P.underlying t with
   |some (.hslice id off len z),some x,some (.slice e)=>match gP E.P e with
    |some (sz+1)=>match Nat.beq z (sz+1)with
     |true=>b1N S h (sz+1) x fun n xs=>S.hget h id fun cs=>S.need (Nat.ble (off+len*z) cs.length)
      (K F ⟨.e,some (.v (.int .i64 ((min n len:Nat):Int))),none,false,h.set id (.cells (spl cs off (xs.take (min n len*(sz+1)))))⟩)
     |false=>False
    |_=>False
   |_,_,_=>False
  |_,_=>False
 | .call {callee:= .value x,args,.. } =>match aX E F.tmg x,pB (args.toList.map (aX E F.tmg))with
  |some (.v (.func (.func g) a b)),some xs=>S.call g (L5 E g (a++xs++b)) h fun v h'=>K F ⟨rC (E.iso g),some (.v v),none,false,h'⟩
  |_,_=>False
 | .lookup t x k ok=>match E.P.underlying t,bE (aX E F.tmg x),bE (aX E F.tmg k)with
  |some (.map kt et),some (.map id),some key=>match E.P.underlying kt,dD E.P et with
   |some d,some z=>match oL d key with
    |true=>S.mlook h id d key (fun r=>ldE S E et r fun v=>K F ⟨.r,some (.v (match ok with|true=> .tuple [v,.bool true]|false=>v)),none,false,h⟩)
     (K F ⟨.r,some (.v (match ok with|true=> .tuple [z,.bool false]|false=>z)),none,false,h⟩)
    |false=>False
   |_,_=>False
  |_,_,_=>M5 E f draw o F h K
 | .mapUpdate t m k x=>match E.P.underlying t,bE (aX E F.tmg m),bE (aX E F.tmg k),bE (aX E F.tmg x)with
  |some (.map kt _),some (.map id),some key,some v=>match E.P.underlying kt with
   |some d=>match oL d key with
    |true=>S.mupd h id d key v fun j=>K F ⟨.e,none,none,false,h.set id (.map j)⟩
    |false=>False
   |_=>False
  |_,_,_,_=>False
 | .mapEntry t m k=>match E.P.underlying t,bE (aX E F.tmg m),bE (aX E F.tmg k)with
  |some (.map kt et),some (.map id),some key=>match E.P.underlying kt,dD E.P et with
   |some d,some z=>match oL d key with
    |true=>S.ent h id d key z fun v n j=>K F ⟨.e,some (.v (.tuple [v,.int .i64 n])),none,false,h.set id (.map j)⟩
    |false=>False
   |_,_=>False
  |_,_,_=>False
 | .entryStore _ m s x=>match bE (aX E F.tmg m),bE (aX E F.tmg s),bE (aX E F.tmg x)with
  |some (.map id),some (.int _ n),some v=>S.mput h id n v fun j=>K F ⟨.e,none,none,false,h.set id (.map j)⟩
  |_,_,_=>False
 | .convert s d x=>match E.P.underlying s,E.P.underlying d,bE (aX E F.tmg x)with
  |some (.slice e),some .string,some (.vslice _ _ _ 1 cs)=>match E.P.underlying e with
   |some (.int .u8)=>S.byt cs fun b=>K F ⟨.p,some (.v (.str b)),none,false,h⟩
   |_=>False
  |_,_,_=>M5 E f draw o F h K
 |_=>M5 E f draw o F h K
def opA(n:Nat)(o:Oper)(F:GF)(h:Heap)(K:GF->Ef->Prop):Prop:=match o.op with
 | .makeSlice t l c=>match E.P.underlying t,o.dst,W3 (aX E F.tmg l),W3 (aX E F.tmg c)with
  |some (.slice e),some d,some l,some c=>match gP E.P e,jI E.P e,dD E.P e with
   |some (sz+1),some bytes,some z=>match Nat.beq (cellsOf z).length (sz+1)with
    |true=>S.need (decide (0<=l) && (decide (l<=c) && (decide (c<=9223372036854775807) &&decide (bytes*c<=140737488355328))))
     (match Nat.beq (1-E.A f d) 0 with
      |true=>S.need (Nat.ble 1 l.toNat) (S.fre h n (K F ⟨.a,some (.v (wI n (1-E.A f d) l.toNat (sz+1) (dY l.toNat (cellsOf z)))),none,false,h.set n (rK (1-E.A f d) l.toNat (sz+1) (dY l.toNat (cellsOf z)))⟩))
      |false=>S.fre h n (K F ⟨.a,some (.v (wI n (1-E.A f d) l.toNat (sz+1) (dY l.toNat (cellsOf z)))),none,false,h.set n (rK (1-E.A f d) l.toNat (sz+1) (dY l.toNat (cellsOf z)))⟩))
    |false=>False
   |_,_,_=>False
  |_,_,_,_=>False
 | .call {callee:= .builtin .append,args,argTypes } =>match argTypes.toList,args.toList with
  | [t,u],[sx,xx]=>match bE (aX E F.tmg sx),bE (aX E F.tmg xx),E.P.underlying t,E.P.underlying u,o.dst with
   |some .nilslice,some x,some (.slice e),some du,some d=>match gP E.P e,jI E.P e,dD E.P e with
    |some (sz+1),some (bytes+1),some z=>match Nat.beq (cellsOf z).length (sz+1) &&mR du with
     |true=>match c1O (sz+1) x with
      |some (k,xs)=>S.br (Nat.beq k 0) (K F ⟨.p,some (.v .nilslice),none,false,h⟩)
       (S.need (Nat.ble (k*(bytes+1)) 140737488355328) (S.fre h n (K F ⟨.a,some (.v (wI n (E.A f d) k (sz+1) xs)),none,false,h.set n (rK (E.A f d) k (sz+1) xs)⟩)))
      |none=>False
     |false=>False
    |_,_,_=>False
   |_,_,_,_,_=>False
  |_,_=>False
 |_=>match H7 E f o (aX E F.tmg) n with
  |some (v,none)=>K F ⟨.p,v,none,false,h⟩
  |some (v,some x)=>S.fre h n (K F ⟨.a,v,none,false,h.set n x⟩)
  |none=>False
def Pl(ops:List Oper)(o:Oper)(F:GF)(g skip:GF->Prop):Prop:=match o.guard with
 |none=>g F
 |some (j,b)=>match(ops[j]?).bind (·.dst)with
  |some d=>match F.tmg d with
   |some (.v (.bool x))=>S.br x ((match b with|true=>g|false=>skip) (F.put (some d) (some (.v (.bool true))))) ((match b with|true=>skip|false=>g) (F.put (some d) (some (.v (.bool false)))))
   |some .u=>skip F
   |_=>False
  |none=>False
def La(b:Nat)(h:Heap)(A:Prop):Ps->Prop
 | []=>A
 |q::r=>match b.testBit q.1 with
  |true=>La b h A r
  |false=>q.2 h/\La b h A r
def rdK(rs:Nat->Y10)(m:Met)(b:Nat)(id:Y10)(A:Prop):List Nat->Prop
 | []=>A
 |j::r=>match b.testBit j||!(m.a.testBit j)with
  |true=>rdK rs m b id A r
  |false=>match rs j,id with
   |some n,some k=>S.need (!(Nat.beq n k)) (rdK rs m b id A r)
   |_,_=>rdK rs m b id A r
def d6W(g:List Nat)(rs:Nat->Y10)(m:Met)(b:Nat)(id:Y10)(c:Cls)(A:Prop):Prop:=match c with
 | .r=>rdK S rs m b id A g
 |_=>A
def c7R(g:List Nat)(rs:Nat->Y10)(draw:Bool)(m:Met)(ps:Ps)(b:Nat)(id:Y10)(e:Ef)(A:Prop):Prop:=match draw with
 |false=>A
 |true=>match kJ (m.chk e.c) b with
  |true=>d6W S g rs m b id e.c A
  |false=>match e.c with
   | .e=>match kJ (m.e|||m.a) b with
    |true=>La b e.h A ps
    |false=>False
   |_=>False
def Zp(ops:List Oper)(draw:Bool)(bef:Nat->Nat)(j:List Nat)(rs:Nat->Y10):List (Oper×Nat)->Met->Ps->GF->Heap->(GF->Heap->Prop)->Prop
 | [],_,_,F,h,K=>K F h
 | (o,i)::r,m,ps,F,h,K=>Pl S ops o F
  (fun g=>(match rs i with
   |none=>opW S E f draw o g h
   |some n=>opA S E f n o g h) fun l e=>c7R S j rs draw m ps (bef i) (kS o (aX E g.tmg)) e (Zp ops draw bef j rs r (m.add e.c i) (Aw E o (aX E F.tmg) e i ps) (l.app o.dst e) e.h K))
  (fun F=>Zp ops draw bef j rs r m ps (F.put o.dst (some .u)) h K)
def eM:Code->Nat
 | .region id _ _=>id+1
 | .seq a b=>match eM a with
  |0=>eM b
  |n=>n
 | .cond _ a b=>match eM a with
  |0=>eM b
  |n=>n
 | .block _ c=>eM c
 | .loop c=>eM c
 | .scope c=>eM c
 |_=>0
def dUn(g:GF->Heap->(Ex->GF->Heap->Prop)->Prop):Nat->GF->Heap->(Ex->GF->Heap->Prop)->Prop
 |0,_,_,_=>False
 |n+1,F,h,K=>g F h fun x F h=>match x with
  | .normal=>dUn g n F h K
  |x=>K x F h
variable (U:Nat->Nat) (IL IC:Nat->Option Inv')
def dC:Code->GF->Heap->(Ex->GF->Heap->Prop)->Prop
 | .skip,F,h,K=>K .normal F h
 | .region id ops draw,F,h,K=>match E.an f id with
  | []=>Zp S E f ops.toList draw (J7 ops) [] (fun _=>none) (B5 (E.od f id) draw ops.toList) {} [] (F.start E f ops.toList draw) h fun F h=>K .normal F h
  |j::r=>Zp S E f ops.toList draw (J7 ops) (j::r) (Sb h.next (j::r)) (B5 (E.od f id) draw ops.toList) {} [] (F.start E f ops.toList draw) (h.reserve (r.length+1)) fun F h=>K .normal F h
 | .seq a b,F,h,K=>match IC (eM b)with
  |none=>match IC (Nat.add (eM b) 1000000)with
   |none=>dC a F h fun x F h=>match x with
    | .normal=>dC b F h K
    |x=>K x F h
   |some v=> ∃M:Nat,(dC a F h fun x F h=>match x with
    | .normal=>v.J F h fun m=>m<=M
    |x=>K x F h)/\v.I fun G h m=>m<=M->dC b G h K
  |some v=>(dC a F h fun x F h=>match x with
   | .normal=>v.J F h fun _=>True
   |x=>K x F h)/\v.I fun G h _=>dC b G h K
 | .cond c a b,F,h,K=>match aX E F.tmg c with
  |some (.v (.bool x))=>S.br x (dC a (Hb c F true) h K) (dC b (Hb c F false) h K)
  |_=>False
 | .block id c,F,h,K=>dC c F h fun x F h=>match x with
  | .exit id'=>match Nat.beq id' id with
   |true=>K .normal F h
   |false=>K (.exit id') F h
  |x=>K x F h
 | .loop c,F,h,K=>match U (eM c)with
  |n+1=>dUn (dC c) (n+1) F h K
  |0=>match IL (eM c)with
   |some v=>(v.J F h fun _=>True)/\v.I fun G h m=>dC c G h fun x G h=>match x with
    | .normal=>v.J G h fun g=>g<m
    |x=>K x G h
   |none=>match IL (Nat.add (eM c) 1000000)with
    |some v=> ∃M:Nat,(v.J F h fun m=>m<=M)/\v.I fun G h m=>m<=M->dC c G h fun x G h=>match x with
     | .normal=>v.J G h fun g=>g<m
     |x=>K x G h
    |none=>False
 | .exit id,F,h,K=>K (.exit id) F h
 | .scope c,F,h,K=>dC c F h K
 | .ret,F,h,K=>K .ret F h
 |_,_,_,_=>False
def b8B(id:Nat)(K:Ex->GF->Heap->Prop)(x:Ex)(F:GF)(h:Heap):Prop:=match x with
 | .exit id'=>match Nat.beq id' id with
  |true=>K .normal F h
  |false=>K (.exit id') F h
 |x=>K x F h
def Pc:Code->GF->Heap->(Ex->GF->Heap->Prop)->Prop
 | .seq a b,F,h,K=>match IC (eM b)with
  |none=>dC S E f U IL IC a F h fun x F h=>match x with
   | .normal=>Pc b F h K
   |x=>K x F h
  |some v=>dC S E f U IL IC a F h fun x F h=>match x with
   | .normal=>v.J F h fun _=>True
   |x=>K x F h
 | .block id c,F,h,K=>Pc c F h (b8B id K)
 | .scope c,F,h,K=>Pc c F h K
 |c,F,h,K=>dC S E f U IL IC c F h K
def L7:Code->(Ex->GF->Heap->Prop)->Prop
 | .seq _ b,K=>match IC (eM b)with
  |none=>L7 b K
  |some v=>(v.I fun G h _=>Pc S E f U IL IC b G h K)/\L7 b K
 | .block id c,K=>L7 c (b8B id K)
 | .scope c,K=>L7 c K
 |_,_=>True
def b1J:Nat:=99999999
def d0I(F:GF)(h:Heap)(K:IV->Prop):ResultVar->Prop
 | .tmp t=>match bE (F.tmg t)with
  |some v=>K v
  |none=>False
 | .cell a t=>match F.tmg a with
  |some (.l s off)=>match F.lvg s with
   |some cs=>ldW S E f (some a) t cs off K
   |none=>False
  |some (.v (.ptr id off))=>S.hget h id fun cs=>ldW S E f (some a) t cs off K
  |_=>False
def R7(F:GF)(h:Heap):List ResultVar->(Y14->Prop)->Prop
 | [],K=>K []
 |r::rs,K=>d0I S E f F h (fun v=>R7 F h rs fun vs=>K (v::vs)) r
def Dk:Y14->Nat->PT (Option TV)->PT (Option TV)
 | [],_,t=>t
 |v::r,i,t=>Dk r (i+1) (t.set i (some (some (.v v))))
def Dj(args:Y14):GF:=⟨Dk args 0 .nil,.nil,FF.none⟩
def Uw(h:Heap)(v:IV)(K:IV->Heap->Prop):Prop:=match v with
 | .hslice id off len sz=>S.hget h id fun cs=>S.need (Nat.ble 1 sz&&Nat.ble (off+len*sz) cs.length) (K (.vslice none 0 len sz ((cs.drop off).take (len*sz))) (h.set id .dead))
 |v=>K v h
def Z1(g:Heap->IV->(IV->Heap->Prop)->Prop):Y14->Heap->(Y14->Heap->Prop)->Prop
 | [],h,K=>K [] h
 |v::r,h,K=>g h v fun m h'=>Z1 g r h' fun l j=>K (m::l) j
def Uz(h:Heap)(v:IV)(K:IV->Heap->Prop):Prop:=match v with
 | .agg cs=>Z1 (Uw S) cs h fun cs' h'=>K (.agg cs') h'
 |v=>Uw S h v K
inductive FrzR(h:Heap)(cs:Y14):Y14->Heap->Prop
 |mk:FrzR h cs (cs.map (pX h)) (a8A h cs)
def a6D(h:Heap)(v:IV)(K:IV->Heap->Prop):Prop:=Uz S h v fun v' h'=>match v' with
 | .vslice none e len sz cs=> ∀(cs':Y14)(g:Heap),FrzR h' cs cs' g->K (.vslice none e len sz cs') g
 |v'=>K v' h'
def Dl(vs:Y14)(h:Heap)(K:Y14->Prop):Prop:=match E.fz f with
 |true=>match E.fd f with
  |true=>Z1 (a6D S) vs h fun g _=>K g
  |false=>Z1 (Uz S) vs h fun g _=>K g
 |false=>K vs
def Ui(rs:List ResultVar)(c:Code)(args:Y14)(h:Heap)(K:Y14->Heap->Prop):Prop:=
 match IC b1J with
 |none=>dC S E f U IL IC c (Dj args) h fun x F h'=>match x with
  | .exit _=>False
  |_=>R7 S E f F h' rs fun vs=>K vs h'
 |some _=>(Pc S E f U IL IC c (Dj args) h fun x F h'=>match x with
  | .exit _=>False
  |_=>R7 S E f F h' rs fun vs=>K vs h')/\L7 S E f U IL IC c fun x F h'=>match x with
  | .exit _=>False
  |_=>R7 S E f F h' rs fun vs=>K vs h'
def dF(args:Y14)(h:Heap)(Q:IV->Heap->Prop):Prop:=match E.P.funcs[f]? with
 |some fn=>match fn.body with
  |some c=>match E.iso f with
   |false=>Ui S E f U IL IC fn.results.toList c (B4 E f fn.params.toList args) h fun vs h'=>match E.fz f with
    |true=>Q (kB E f (kG (B4 E f fn.resultTypes.toList vs)) h').1 (kB E f (kG (B4 E f fn.resultTypes.toList vs)) h').2
    |false=>Q (kG (B4 E f fn.resultTypes.toList vs)) h'
   |true=>S.need (aP (iX E.P fn.params.toList args)) (Ui S E f U IL IC fn.results.toList c (iX E.P fn.params.toList args) Heap.empty fun vs h'=>
    Dl S E f vs h' fun g=>S.need (aP (iX E.P fn.resultTypes.toList g)) (Q (kG (iX E.P fn.resultTypes.toList g)) h))
  |none=>False
 |none=>False
end
end Go.Pv
end
end
