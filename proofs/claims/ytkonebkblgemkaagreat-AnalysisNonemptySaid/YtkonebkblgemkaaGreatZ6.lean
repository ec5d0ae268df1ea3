/-
  Texts of this proof, one after the other.
  Conditions: none.
-/
import Derived.Test.YtkonebkblgemkaaGreatZ5
set_option linter.unusedVariables false
set_option linter.unusedSimpArgs false
set_option maxRecDepth 100000
set_option maxHeartbeats 4000000
noncomputable section
section
namespace Go.Pv
section
variable {E:Env} {f:FuncId} {o:Oper} {ev ev':Operand->Option TV} {h:Heap}
theorem wL{l:List Operand}(hl: ∀x∈l,ev x=ev' x):l.map ev=l.map ev':=h5B hl
theorem uS{l:List (Nat×Operand)}(hl: ∀x∈l.map (·.2),ev x=ev' x):(l.map fun(i,x)=>(i,ev x))=l.map fun(i,x)=>(i,ev' x):=
 h5B fun p hp=>by
  obtain⟨i,x⟩:=p;simp only [hl x (h4O.2 ⟨(i,x),hp,rfl⟩)]
theorem wM{x:Option Operand}(hl: ∀y,x=some y->ev y=ev' y):x.map ev=x.map ev':=by
 cases x with
 |none=>rfl
 |some y=>simp [hl y rfl]
theorem c9U(hc: ∀x∈o.op.operands,ev x=ev' x):eN E f o ev=eN E f o ev':=by
 unfold eN
 cases hop:o.op<;>simp only [hop,Op.operands]at hc⊢
 case move x=>rw [hc x (by simp)]
 case assign x=>rw [hc x (by simp)]
 case pick c a b=>rw [hc c (by simp),hc a (by simp),hc b (by simp)]
 case box t x=>rw [hc x (by simp)]
 case build t ps=>rw [uS (ev:=ev) (ev':=ev') (fun x hx=>hc x (by simpa using hx))]
 case buildSlice t n ps=>rw [uS (ev:=ev) (ev':=ev') (fun x hx=>hc x (by simpa using hx))]
 case load t x=>rw [hc x (by simp)]
 case nilCheck x=>rw [hc x (by simp)]
 case binOp op t x y u=>rw [hc x (by simp),hc y (by simp)]
 case unOp op t x=>rw [hc x (by simp)]
 case convert s d x=>rw [hc x (by simp)]
 case makeInterface t x=>rw [hc x (by simp)]
 case makeFunc fn a b=>rw [wL (ev:=ev) (ev':=ev') (fun x hx=>hc x (by simp at hx⊢;exact .inl hx)),wL (ev:=ev) (ev':=ev') (l:=b.toList) (fun x hx=>hc x (by simp at hx⊢;exact .inr hx))]
 case slice t x lo hi mx=>
  rw [hc x (by simp),wM (ev:=ev) (ev':=ev') (fun y hy=>hc y (by subst hy;simp)),wM (ev:=ev) (ev':=ev') (x:=hi) (fun y hy=>hc y (by subst hy;simp))]
 case fieldAddr t x i=>rw [hc x (by simp)]
 case field t x i=>rw [hc x (by simp)]
 case indexAddr t x i=>rw [hc x (by simp),hc i (by simp)]
 case index t x i=>rw [hc x (by simp),hc i (by simp)]
 case extract x i=>rw [hc x (by simp)]
 case typeAssert x s t ok=>rw [hc x (by simp)]
 case call c=>
  obtain⟨callee,args,argTypes⟩:=c
  cases callee with
  |value x=>rfl
  |invoke x n=>rfl
  |builtin b=>
   have ha: ∀x∈args.toList,ev x=ev' x:=fun x hx=>hc x (by simp [Call.operands];simpa using hx)
   have h0:((args[0]?).bind fun x=>bM (ev x))=(args[0]?).bind fun x=>bM (ev' x):=by
    cases hq:args[0]? with
    |none=>rfl
    |some y=>
     have:y∈args.toList:=by
      rw [<-Array.getElem?_toList]at hq;exact h3C hq
     simp [ha y this]
   cases b<;>simp only [h0,wL ha]
theorem c9V{lv lv':Nat->Option (List IV)}(hc: ∀x∈o.op.operands,ev x=ev' x)(hl: ∀s,lv s=lv' s):gD E o ev lv=gD E o ev' lv':=by
 have:lv=lv':=funext hl;subst this;unfold gD
 cases hop:o.op<;>simp only [hop,Op.operands]at hc⊢
 case load t x=>rw [hc x (by simp)]
theorem c9W{lv lv':Nat->Option (List IV)}(hc: ∀x∈o.op.operands,ev x=ev' x)(hl: ∀s,lv s=lv' s):gZ E o ev lv=gZ E o ev' lv':=by
 have:lv=lv':=funext hl;subst this;unfold gZ
 cases hop:o.op<;>simp only [hop,Op.operands]at hc⊢
 case store t a x=>rw [hc a (by simp),hc x (by simp)]
theorem yS(hc: ∀x∈o.op.operands,ev x=ev' x):dP E o ev h=dP E o ev' h:=by
 unfold dP
 cases hop:o.op<;>simp only [hop,Op.operands]at hc⊢
 case load t x=>rw [hc x (by simp)]
 case convert s d x=>rw [hc x (by simp)]
 case slice t x lo hi mx=>
  rw [hc x (by simp),wM (ev:=ev) (ev':=ev') (fun y hy=>hc y (by subst hy;simp)),wM (ev:=ev) (ev':=ev') (x:=hi) (fun y hy=>hc y (by subst hy;simp))]
 case lookup t x k ok=>rw [hc x (by simp),hc k (by simp)]
 case call c=>
  obtain⟨callee,args,argTypes⟩:=c
  cases callee with
  |value x=>rfl
  |invoke x n=>rfl
  |builtin b=>
   have ha: ∀x∈args.toList,ev x=ev' x:=fun x hx=>hc x (by simp [Call.operands];simpa using hx)
   have h0:((args[0]?).bind fun x=>bM (ev x))=(args[0]?).bind fun x=>bM (ev' x):=by
    cases hq:args[0]? with
    |none=>rfl
    |some y=>
     have:y∈args.toList:=by
      rw [<-Array.getElem?_toList]at hq;exact h3C hq
     simp [ha y this]
   cases b<;>simp only [h0]
theorem c9X(hc: ∀x∈o.op.operands,ev x=ev' x):gV E f o ev h=gV E f o ev' h:=by
 unfold gV
 cases hop:o.op<;>simp only [hop,Op.operands]at hc⊢
 case box t x=>rw [hc x (by simp)]
 case buildSlice t n ps=>rw [uS (ev:=ev) (ev':=ev') (fun x hx=>hc x (by simpa using hx))]
 case makeSlice t l c=>rw [hc l (by simp),hc c (by simp)]
 case convert s d x=>rw [hc x (by simp)]
 case store t a x=>rw [hc a (by simp),hc x (by simp)]
 case mapUpdate t m k x=>rw [hc m (by simp),hc k (by simp),hc x (by simp)]
 case mapEntry t m k=>rw [hc m (by simp),hc k (by simp)]
 case entryStore t m s x=>rw [hc m (by simp),hc s (by simp),hc x (by simp)]
 case call c=>
  obtain⟨callee,args,argTypes⟩:=c
  cases callee with
  |value x=>rfl
  |invoke x n=>rfl
  |builtin b=>
   have ha: ∀x∈args.toList,ev x=ev' x:=fun x hx=>hc x (by simp [Call.operands];simpa using hx)
   cases b<;>try rfl
   ·simp only;split
    ·rename_i sx xx _ har;rw [ha sx (by rw [har];simp),ha xx (by rw [har];simp)]
    ·rfl
   ·simp only;split
    ·rename_i sx xx _ har;rw [ha sx (by rw [har];simp),ha xx (by rw [har];simp)]
    ·rfl
theorem d3K{n:Nat}(hc: ∀x∈o.op.operands,ev x=ev' x):aSh E f o ev n=aSh E f o ev' n:=by
 unfold aSh
 cases hop:o.op<;>simp only [hop,Op.operands]at hc⊢
 case makeSlice t l c=>rw [hc l (by simp),hc c (by simp)]
 case call c=>
  obtain⟨callee,args,argTypes⟩:=c
  cases callee with
  |value x=>rfl
  |invoke x n=>rfl
  |builtin b=>
   have ha: ∀x∈args.toList,ev x=ev' x:=fun x hx=>hc x (by simp [Call.operands];simpa using hx)
   cases b<;>try rfl
   simp only;split
   ·rename_i sx xx _ har;rw [ha sx (by rw [har];simp),ha xx (by rw [har];simp)]
   ·rfl
theorem yT(hc: ∀x∈o.op.operands,ev x=ev' x):jO o ev=jO o ev':=by
 unfold jO
 cases hop:o.op<;>simp only [hop,Op.operands]at hc⊢
 case load t x=>rw [hc x (by simp)]
 case convert s d x=>rw [hc x (by simp)]
 case slice t x lo hi mx=>rw [hc x (by simp)]
 case lookup t x k ok=>rw [hc x (by simp)]
 case call c=>
  obtain⟨callee,args,argTypes⟩:=c
  cases callee with
  |value x=>rfl
  |invoke x n=>rfl
  |builtin b=>
   have ha: ∀x∈args.toList,ev x=ev' x:=fun x hx=>hc x (by simp [Call.operands];simpa using hx)
   have h0:((args[0]?).bind fun x=>bM (ev x))=(args[0]?).bind fun x=>bM (ev' x):=by
    cases hq:args[0]? with
    |none=>rfl
    |some y=>
     have:y∈args.toList:=by
      rw [<-Array.getElem?_toList]at hq;exact h3C hq
     simp [ha y this]
   cases b<;>simp only [h0]
theorem b0I(hc: ∀x∈o.op.operands,ev x=ev' x):dJ o ev=dJ o ev':=by
 unfold dJ
 cases hop:o.op<;>simp only [hop,Op.operands]at hc⊢
 case call c=>
  obtain⟨callee,args,argTypes⟩:=c
  cases callee with
  |builtin b=>rfl
  |invoke x n=>rfl
  |value x=>
   have ha: ∀x∈args.toList,ev x=ev' x:=fun y hy=>hc y (by simp [Call.operands];simp at hy;exact .inr hy)
   simp only;rw [hc x (by simp [Call.operands]),wL ha]
end
def mP(h h2:Heap):Option Nat->Prop
 |none=>True
 |some id=>h2.get id=h.get id
theorem yU{E:Env}{o:Oper}{ev:Operand->Option TV}{h h2:Heap}{v:TV}(hr:dP E o ev h=some v)(hs:mP h h2 (jO o ev)):dP E o ev h2=some v:=by
 unfold jO at hs;unfold dP at hr⊢;split at hr
 ·rename_i t a hop;simp only [hop]at hs⊢;split at hr
  ·rename_i id off he;simp only [he,mP]at hs⊢;rw [hs];exact hr
  ·cases hr
 ·rename_i s d x hop;simp only [hop]at hs⊢;split at hr
  ·rename_i e id off len e1 e2 e3;simp only [e3,mP]at hs;simp only [e1,e2,e3,hs];exact hr
  ·cases hr
 ·rename_i t x lo hi mx hop;simp only [hop]at hs⊢;split at hr
  ·rename_i n e id off e2 e3;simp only [e3,mP]at hs;simp only [e2,e3,hs];exact hr
  ·cases hr
 ·rename_i t x k ok hop;simp only [hop]at hs⊢;split at hr
  ·rename_i kt et m key e1 e2 e3
   cases m with
   |map id=>
    rw [e2]at hs;have hs':h2.get id=h.get id:=hs;simp only [hs']at hr⊢;exact hr
   |_=>exact hr
  ·cases hr
 ·rename_i args argTypes _ hop;simp only [hop]at hs⊢;split at hr
  ·rename_i t id e1 e2;simp only [e2,mP]at hs;simp only [e1,e2,hs];exact hr
  ·cases hr
 ·cases hr
theorem c9Y{E:Env}{o:Oper}{ev:Operand->Option TV}{h:Heap}{v:TV}{id:Nat}(hr:dP E o ev h=some v)(hi:jO o ev=some id):h.get id≠ .free:=by
 intro hf;unfold jO at hi;unfold dP at hr;split at hr
 ·rename_i t a hop;simp only [hop]at hi;split at hr
  ·rename_i id' off he;simp only [he,h0V]at hi;subst hi;rw [hf]at hr;cases hr
  ·cases hr
 ·rename_i s d x hop;simp only [hop]at hi;split at hr
  ·rename_i e id' off len e1 e2 e3;simp only [e3,h0V]at hi;subst hi;simp only [hf]at hr;split at hr
   ·simp_all
   ·cases hr
  ·cases hr
 ·rename_i t x lo hi' mx hop;simp only [hop]at hi;split at hr
  ·rename_i n e id' off e2 e3;simp only [e3,h0V]at hi;subst hi;rw [hf]at hr;simp at hr
  ·cases hr
 ·rename_i t x k ok hop;simp only [hop]at hi;split at hr
  ·rename_i kt et m key e1 e2 e3;rw [e2]at hi
   cases m with
   |map id'=>
    simp only [h0V]at hi;subst hi;simp only [hf]at hr;split at hr
    ·simp_all
    ·cases hr
   |_=>cases hi
  ·cases hr
 ·rename_i args argTypes _ hop;simp only [hop]at hi;split at hr
  ·rename_i t id' e1 e2;simp only [e2,h0V]at hi;subst hi;rw [hf]at hr;simp at hr
  ·cases hr
 ·cases hr
structure FF where
 tm:Nat->Option TV
 lv:Nat->Option (List IV)
def Fr.ff(fr:Fr):FF:=⟨fr.tm.get,fr.lv.get⟩
def FF.put(F:FF)(d:Option Tmp)(v:Option TV):FF:=
 match d with
 |some t=> {F with tm:=fun k=>if k=t then v else F.tm k }
 |none=>F
def FF.lset(F:FF)(s:Nat)(cs:List IV):FF:= {F with lv:=fun k=>if k=s then some cs else F.lv k }
def FF.clr(F:FF)(s:Nat):FF:= {F with tm:=fun k=>match F.tm k with|some x=>if rF s x then some x else none|none=>none }
def FF.app(F:FF)(d:Option Tmp)(e:Ef):FF:=
 match e.loc with
 |some (s,cs)=>if e.box then((F.clr s).lset s cs).put d e.v else(F.put d e.v).lset s cs
 |none=>F.put d e.v
theorem c0A(fr:Fr)(d:Option Tmp)(v:Option TV):(fr.put d v).ff=fr.ff.put d v:=by
 cases d with
 |none=>rfl
 |some t=>
  simp only [Fr.put,Fr.ff,FF.put]
  congr 1
  funext k;rw [PT.get_set]
theorem d3L(fr:Fr)(d:Option Tmp)(e:Ef):(fr.app d e).ff=fr.ff.app d e:=by
 unfold Fr.app FF.app
 cases e.loc with
 |none=>exact c0A _ _ _
 |some q=>
  obtain⟨s,cs⟩:=q;simp only;split
  ·rw [c0A]
   congr 1
   simp only [Fr.box,Fr.ff,FF.lset,FF.clr]
   congr 1
   ·funext k;rw [PT.get_filt];cases fr.tm.get k<;>rfl
   ·funext k;rw [PT.get_set]
  ·have h1:=c0A fr d e.v;have h2:(fr.put d e.v).lv=fr.lv:=by cases d<;>rfl
   have h3:(Fr.ff {fr.put d e.v with lv:=fr.lv.set s (some cs) })=(Fr.ff (fr.put d e.v)).lset s cs:=by
    simp only [Fr.ff,FF.lset]
    congr 1
    funext k;rw [PT.get_set,h2]
   rw [h3,h1]
section
variable (E:Env) (f:FuncId) (cf:FuncId->List IV->Heap->Option (IV×Heap)) (ops:List Oper) (bef:Nat->Nat)
def b4B(al:List Nat)(rs:Nat->Option Nat)(draw:Bool):List (Oper×Nat)->Met->Pd->FF->Heap->FF->Heap->Prop
 | [],_,_,F,h,F',h'=>F=F'/\h=h'
 | (o,i)::r,m,pd,F,h,F',h'=> ∃e,dE E f cf ops draw (rs i) o F.tm F.lv h=some e/\(draw=true->okB al rs m pd (bef i) (jO o (bC E F.tm)) e=true)/\b4B al rs draw r (m.add e.c i) (mK E o (bC E F.tm) e i pd) (F.app o.dst e) e.h F' h'
theorem c5I{al:List Nat}{rs:Nat->Option Nat}{draw:Bool} : ∀{l:List (Oper×Nat)}{m:Met}{pd:Pd}{fr fr':Fr}{h h':Heap},mL E f cf ops draw bef al rs l m pd fr h=some (fr',h')->b4B E f cf ops bef al rs draw l m pd fr.ff h fr'.ff h'
 | [],m,pd,fr,fr',h,h',hr=>by simp [mL]at hr;obtain⟨rfl,rfl⟩:=hr;exact⟨rfl,rfl⟩
 | (o,i)::r,m,pd,fr,fr',h,h',hr=>by
  unfold mL at hr;split at hr
  case h_2=>simp at hr
  rename_i e he;split at hr
  case isFalse=>simp at hr
  rename_i hw;refine⟨e,he,fun hd=>by subst hd;simpa [Fr.ff]using hw,?_⟩;rw [<-d3L];exact c5I hr
end
mutual
theorem b0J: ∀{a b:IV},b9P a b=true->a=b:=by
 intro a b h
 cases a<;>cases b<;>simp only [b9P,h0Y,decide_eq_true_eq,beq_iff_eq,h1X]at h
 all_goals first
  |rfl
  | (subst h;rfl)
  | (obtain⟨h1,h2⟩:=h;have e1:=h1I h1;have e2:=h1I h2;subst e1;subst e2;rfl)
  | (obtain⟨h1,h2⟩:=h;subst h1;subst h2;rfl)
  | (have e1:=h1I h;subst e1;rfl)
  | (have e1:=oP h;subst e1;rfl)
  | (obtain⟨h1,h2⟩:=h;have e1:=h1I h1;have e2:=oP h2;subst e1;subst e2;rfl)
  | (obtain⟨h1,h2,h3⟩:=h;have e2:=oP h2;have e3:=oP h3;subst h1;subst e2;subst e3;rfl)
  | (obtain⟨h1,h2⟩:=h;have e2:=b0J h2;subst h1;subst e2;rfl)
  | (obtain⟨h1,h2,h3,h4⟩:=h;have e1:=h1I h1;have e2:=h1I h2;have e3:=h1I h3;have e4:=h1I h4;subst e1;subst e2;subst e3;subst e4;rfl)
  | (obtain⟨h1,h2,h3,h4,h5⟩:=h;have e2:=h1I h2;have e3:=h1I h3;have e4:=h1I h4;have e5:=oP h5;subst h1;subst e2;subst e3;subst e4;subst e5;rfl)
theorem oP: ∀{a b:List IV},oL a b=true->a=b:=by
 intro a b h
 cases a with
 |nil=>cases b with
  |nil=>rfl
  |cons y r=>simp [oL]at h
 |cons x l=>cases b with
  |nil=>simp [oL]at h
  |cons y r=>
   simp only [oL,h0Y]at h;rw [b0J h.1,oP h.2]
end
mutual
theorem yV: ∀a:IV,b9P a a=true:=by
 intro a;have nb: ∀n:Nat,Nat.beq n n=true:=fun n=>h8Z n
 cases a<;>simp only [b9P,nb,decide_true,h5U,beq_self_eq_true,h2G]
 all_goals first
  |exact pX _
  | (rw [pX,pX];rfl)
  |exact yV _
theorem pX: ∀a:List IV,oL a a=true:=by
 intro a
 cases a with
 |nil=>rfl
 |cons x r=>simp only [oL,yV x,pX r,h5U]
end
theorem e4Z{a b:TV}(h:e4I a b=true):a=b:=by
 unfold e4I at h;split at h
 ·rw [b0J h]
 ·cases h
def jA:Cls->Cls->Bool
 | .l,.s=>true
 | .s,.l=>true
 | .s,.s=>true
 | .r,.e=>true
 | .e,.r=>true
 | .e,.e=>true
 | .a,.e=>true
 | .e,.a=>true
 |_,_=>false
section
variable {E:Env} {f:FuncId} {cf:FuncId->List IV->Heap->Option (IV×Heap)} {ops:List Oper}
theorem a7O{o:Oper}{ev:Operand->Option TV}{lv:Nat->Option (List IV)}{v:TV}(h:gD E o ev lv=some v): ∃t a s off,o.op= .load t a/\ev a=some (.l s off):=by
 unfold gD at h;split at h
 ·rename_i t a hop;split at h
  ·rename_i s off ha;exact⟨t,a,s,off,hop,ha⟩
  ·simp at h
 ·simp at h
theorem uT{o:Oper}{ev:Operand->Option TV}{lv:Nat->Option (List IV)}{v:Nat×List IV}(h:gZ E o ev lv=some v): ∃t a x s off,o.op= .store t a x/\ev a=some (.l s off):=by
 unfold gZ at h;split at h
 ·rename_i t a x hop;split at h
  ·rename_i s off v' ha hx;exact⟨t,a,x,s,off,hop,ha⟩
  ·simp at h
 ·simp at h
theorem mQ{o:Oper}{ev:Operand->Option TV}{h:Heap}(hx:(dP E o ev h).isSome\/ (gV E f o ev h).isSome\/ (dJ o ev).isSome)(lv:Nat->Option (List IV)):gD E o ev lv=none/\gZ E o ev lv=none:=by
 constructor
 ·cases hl:gD E o ev lv with
  |none=>rfl
  |some v=>
   obtain⟨t,a,s,off,hop,ha⟩:=a7O hl;simp [dP,gV,dJ,hop,ha]at hx
 ·cases hl:gZ E o ev lv with
  |none=>rfl
  |some v=>
   obtain⟨t,a,x,s,off,hop,ha⟩:=uT hl;simp [dP,gV,dJ,hop,ha]at hx
theorem c9Z{o:Oper}{ev:Operand->Option TV}{h:Heap}(hx:(gV E f o ev h).isSome\/ (dJ o ev).isSome)(h2:Heap):dP E o ev h2=none:=by
 cases hr:dP E o ev h2 with
 |none=>rfl
 |some v=>
  unfold dP at hr
  cases hop:o.op<;>simp only [hop]at hr<;>try (simp at hr;done)
  case load t a=>simp [gV,dJ,hop]at hx
  case convert s d x=>
   split at hr
   ·rename_i e id off len h1 h2' h3;simp [gV,dJ,hop,h1,h2',h3]at hx
   ·simp at hr
  case slice t x lo hi mx=>simp [gV,dJ,hop]at hx
  case lookup t x k ok=>simp [gV,dJ,hop]at hx
  case call c=>
   obtain⟨callee,args,argTypes⟩:=c
   cases callee with
   |value x=>simp at hr
   |invoke x n=>simp at hr
   |builtin b=>cases b<;>simp at hr<;>simp [gV,dJ,hop]at hx
theorem d3M{o:Oper}{tm:Nat->Option TV}{x:Operand}{s off:Nat}(hx:x∈o.op.operands)(h:bC E tm x=some (.l s off)): ∃t,t∈o.looksAt ops.toArray/\tm t=some (.l s off):=by
 cases x with
 |tmp t=>
  refine⟨t,?_,h⟩;simp only [Oper.looksAt,h2S,h6A];exact .inl ⟨.tmp t,by simpa using hx,rfl⟩
 |const v=>
  simp only [bC]at h;obtain⟨y,_,h2⟩:=h0W.1 h
  cases h2
 |global g=>
  simp only [bC]at h;obtain⟨y,_,h2⟩:=h0W.1 h
  cases h2
 |func g=>simp [bC]at h
theorem e5A{o:Oper}{ev:Operand->Option TV}{lv:Nat->Option (List IV)}{v:TV}(h:gD E o ev lv=some v): ∃x∈o.op.operands,∃s off,ev x=some (.l s off)/\(∃cs,lv s=some cs)/\∀lv2,lv2 s=lv s->gD E o ev lv2=some v:=by
 unfold gD at h;split at h
 ·rename_i t a hop;split at h
  ·rename_i s off ha;refine⟨a,by simp [hop,Op.operands],s,off,ha,?_,fun lv2 e=>?_⟩
   ·split at h
    ·rename_i cs hc;exact⟨cs,hc⟩
    ·simp at h
   ·simp only [gD,hop,ha,e];exact h
  ·simp at h
 ·simp at h
theorem e5B{o:Oper}{ev:Operand->Option TV}{lv:Nat->Option (List IV)}{q:Nat×List IV}(h:gZ E o ev lv=some q): ∃x∈o.op.operands,∃off,ev x=some (.l q.1 off)/\(∃cs,lv q.1=some cs)/\∀lv2,lv2 q.1=lv q.1->gZ E o ev lv2=some q:=by
 unfold gZ at h;split at h
 ·rename_i t a x hop;split at h
  ·rename_i s off v ha hx;split at h
   ·rename_i cs hc;obtain⟨y,h1,h2⟩:=h0W.1 h;subst h2;refine⟨a,by simp [hop,Op.operands],off,ha,⟨cs,hc⟩,fun lv2 e=>?_⟩;simp only at e;simp only [gZ,hop,ha,hx,e,hc];exact h
   ·simp at h
  ·simp at h
 ·simp at h
theorem d0A{o:Oper}{ev:Operand->Option TV}{lv lv2:Nat->Option (List IV)}{q:Nat×List IV}(h:gZ E o ev lv=some q):gD E o ev lv2=none:=by
 obtain⟨t,a,x,s,off,hop,ha⟩:=uT h;simp [gD,hop]
def qS(E:Env)(cf:FuncId->List IV->Heap->Option (IV×Heap)):Prop:= ∀g,E.iso g=true-> ∀xs h v h',cf g xs h=some (v,h')->h'=h/\∀h2,cf g xs h2=some (v,h2)
theorem d0B{o:Oper}{ev:Operand->Option TV}(hx:(dJ o ev).isSome)(h2:Heap):gV E f o ev h2=none:=by
 unfold dJ at hx;split at hx
 ·rename_i x args _ hop;simp [gV,hop]
 ·simp at hx
theorem a7P(hcfi:qS E cf){o:Oper}{tm:Nat->Option TV}{lv:Nat->Option (List IV)}{h:Heap}{e:Ef}(he:uN E f cf ops true o tm lv h=some e):
  e.box=false/\
  (e.c= .p->e.loc=none/\e.h=h/\∀lv2 h2,uN E f cf ops true o tm lv2 h2=some {e with h:=h2 })/\
  (e.c= .l->e.loc=none/\e.h=h/\∃t s off,t∈o.looksAt ops.toArray/\tm t=some (.l s off)/\(∃cs,lv s=some cs)/\∀lv2 h2,lv2 s=lv s->uN E f cf ops true o tm lv2 h2=some {e with h:=h2 })/\
  (e.c= .s->e.h=h/\∃t s off cs,t∈o.looksAt ops.toArray/\tm t=some (.l s off)/\(∃cs,lv s=some cs)/\e.loc=some (s,cs)/\∀lv2 h2,lv2 s=lv s->uN E f cf ops true o tm lv2 h2=some {e with h:=h2 })/\
  (e.c= .r->e.loc=none/\e.h=h/\∀lv2,uN E f cf ops true o tm lv2 h=some e)/\
  (e.c= .e->e.loc=none/\∀lv2,uN E f cf ops true o tm lv2 h=some e)/\
  (e.c= .b->e.h=h/\∃d cs,o.dst=some d/\e.loc=some (d,cs)/\lv d=none/\∀lv2 h2,lv2 d=none->uN E f cf ops true o tm lv2 h2=some {e with h:=h2 }):=by
 unfold uN at he
 cases hw:dD ops tm o with
 |none=>simp [hw]at he
 |some b=>
  simp only [hw]at he
  cases b with
  |false=>
   simp only [h0V]at he;subst he;refine⟨rfl,fun _=>⟨rfl,rfl,fun lv2 h2=>by simp [uN,hw]⟩,?_,?_,?_,?_,?_⟩<;>intro hc<;>simp at hc
  |true=>
   simp only at he;have hE: ∀lv2 h2,uN E f cf ops true o tm lv2 h2=dX E f cf true o (bC E tm) lv2 h2:=fun lv2 h2=>by simp [uN,hw]
   simp only [hE];unfold dX at he⊢
   cases hp:eN E f o (bC E tm)with
   |some q=>
    obtain⟨v,bx⟩:=q;simp only [hp]at he⊢;split at he
    ·rename_i cs d hd;simp only [if_true]at he;split at he
     case h_2=>cases he
     rename_i hlv;simp only [h0V]at he;subst he;refine⟨rfl,?_,?_,?_,?_,?_,fun _=>⟨rfl,d,cs,hd,rfl,hlv,fun lv2 h2 e=>by simp [e]⟩⟩<;>intro hc<;>simp at hc
    ·rename_i hbx;simp only [h0V]at he;subst he;refine⟨rfl,fun _=>⟨rfl,rfl,fun lv2 h2=>rfl⟩,?_,?_,?_,?_,?_⟩<;>intro hc<;>simp at hc
    ·simp at he
   |none=>
    simp only [hp]at he⊢
    cases hl:gD E o (bC E tm) lv with
    |some v=>
     simp only [hl,h0V]at he;subst he;obtain⟨x,hx,s,off,h1,h2,h3⟩:=e5A hl;obtain⟨t,ht1,ht2⟩:=d3M (ops:=ops) hx h1;refine⟨rfl,?_,fun _=>⟨rfl,rfl,t,s,off,ht1,ht2,h2,fun lv2 h2' e=>by simp only [h3 lv2 e]⟩,?_,?_,?_,?_⟩<;>intro hc<;>simp at hc
    |none=>
     simp only [hl]at he
     cases hs:gZ E o (bC E tm) lv with
     |some q=>
      obtain⟨x,hx,off,h1,h2,h3⟩:=e5B hs;obtain⟨t,ht1,ht2⟩:=d3M (ops:=ops) hx h1;have hln:=fun lv2=>d0A (lv2:=lv2) hs
      obtain⟨s,cs⟩:=q;simp only [hs,h0V]at he;subst he;refine⟨rfl,?_,?_,fun _=>⟨rfl,t,s,off,cs,ht1,ht2,h2,rfl,fun lv2 h2' e=>by simp only [hln lv2,h3 lv2 e]⟩,?_,?_,?_⟩<;>intro hc<;>simp at hc
     |none=>
      simp only [hs]at he
      cases hr:dP E o (bC E tm) h with
      |some v=>
       simp only [hr,h0V]at he;subst he;have hn:=fun lv2=>mQ (E:=E) (f:=f) (o:=o) (ev:=bC E tm) (h:=h) (.inl (by simp [hr])) lv2
       refine⟨rfl,?_,?_,?_,fun _=>⟨rfl,rfl,fun lv2=>by simp only [(hn lv2).1,(hn lv2).2,hr]⟩,?_,?_⟩<;>intro hc<;>simp at hc
      |none=>
       simp only [hr]at he
       cases hee:gV E f o (bC E tm) h with
       |some q=>
        obtain⟨v,h'⟩:=q;simp only [hee,h0V]at he;subst he;have hn:=fun lv2=>mQ (E:=E) (f:=f) (o:=o) (ev:=bC E tm) (h:=h) (.inr (.inl (by simp [hee]))) lv2
        refine⟨rfl,?_,?_,?_,?_,fun _=>⟨rfl,fun lv2=>by simp only [(hn lv2).1,(hn lv2).2,hr,hee]⟩,?_⟩<;>intro hc<;>simp at hc
       |none=>
        simp only [hee]at he
        cases hcl:dJ o (bC E tm)with
        |none=>simp [hcl]at he
        |some q=>
         obtain⟨g,xs⟩:=q;simp only [hcl]at he;split at he
         case h_2=>simp at he
         rename_i v h' hcf;simp only [h0V]at he
         cases hiso:E.iso g with
         |true=>
          simp only [hiso,pS]at he;subst he;obtain⟨rfl,hall⟩:=hcfi g hiso _ _ _ _ hcf;have hn:=fun lv2=>mQ (E:=E) (f:=f) (o:=o) (ev:=bC E tm) (h:=h') (.inr (.inr (by simp [hcl]))) lv2
          have hrn:=c9Z (E:=E) (f:=f) (o:=o) (ev:=bC E tm) (h:=h') (.inr (by simp [hcl]));have hen:=d0B (E:=E) (f:=f) (o:=o) (ev:=bC E tm) (by simp [hcl]);refine⟨rfl,fun _=>⟨rfl,rfl,fun lv2 h2=>by simp only [(hn lv2).1,(hn lv2).2,hrn h2,hen h2,hcl,hall h2,hiso,pS]⟩,?_,?_,?_,?_,?_⟩<;>intro hc<;>simp at hc
         |false=>
         simp only [hiso,pS]at he;subst he;have hn:=fun lv2=>mQ (E:=E) (f:=f) (o:=o) (ev:=bC E tm) (h:=h) (.inr (.inr (by simp [hcl]))) lv2
         refine⟨rfl,?_,?_,?_,?_,fun _=>⟨rfl,fun lv2=>by simp only [(hn lv2).1,(hn lv2).2,hr,hee,hcl,hcf,hiso,pS]⟩,?_⟩<;>intro hc<;>simp at hc
def rO(F:FF):Prop:= ∀k s off,F.tm k=some (.l s off)-> ∃cs,F.lv s=some cs
theorem a0L{o:Oper}{tm tm':Nat->Option TV}(h: ∀t∈o.looksAt ops.toArray,tm t=tm' t):dD ops tm o=dD ops tm' o:=by
 unfold dD
 cases hg:o.guard with
 |none=>rfl
 |some q=>
  obtain⟨j,b⟩:=q;simp only
  cases hd:(ops[j]?).bind (·.dst)with
  |none=>rfl
  |some d=>
   have:d∈o.looksAt ops.toArray:=by
    simp only [Oper.looksAt,hg,h4I,hd];simp
   simp only [h d this]
theorem jX{o:Oper}{tm tm':Nat->Option TV}(h: ∀t∈o.looksAt ops.toArray,tm t=tm' t): ∀x∈o.op.operands,bC E tm x=bC E tm' x:=by
 intro x hx
 cases x with
 |tmp t=>
  simp only [bC];refine h t ?_;simp only [Oper.looksAt,h2S,h6A];exact .inl ⟨.tmp t,by simpa using hx,rfl⟩
 |const v=>rfl
 |global g=>rfl
 |func g=>rfl
theorem d3N{draw:Bool}{o:Oper}{tm tm':Nat->Option TV}{lv:Nat->Option (List IV)}{h:Heap}(hh: ∀t∈o.looksAt ops.toArray,tm t=tm' t):uN E f cf ops draw o tm lv h=uN E f cf ops draw o tm' lv h:=by
 have hc:=jX (E:=E) hh;simp only [uN,a0L hh,dX,c9U (E:=E) (f:=f) hc,c9V (E:=E) (lv:=lv) (lv':=lv) hc (fun _=>rfl),c9W (E:=E) (lv:=lv) (lv':=lv) hc (fun _=>rfl),yS (E:=E) (h:=h) hc,c9X (E:=E) (f:=f) (h:=h) hc,b0I hc]
theorem FF.ext'{F G:FF}(h1: ∀k,F.tm k=G.tm k)(h2: ∀k,F.lv k=G.lv k):F=G:=by
 obtain⟨a,b⟩:=F;obtain⟨c,d⟩:=G;have e1:a=c:=funext h1;have e2:b=d:=funext h2;subst e1;subst e2;rfl
theorem fJ{F:FF}{d:Option Tmp}{e:Ef}(hb:e.box=false)(k:Nat):(F.app d e).tm k=if d=some k then e.v else F.tm k:=by
 unfold FF.app
 cases e.loc with
 |none=>
  cases d with
  |none=>simp [FF.put]
  |some t=>
   simp only [FF.put,h0V]
   by_cases h:k=t
   ·simp [h]
   ·simp [h,show¬t=k from fun e=>h e.symm]
 |some q=>
  simp only [hb,h1X,if_false,FF.lset]
  cases d with
  |none=>simp [FF.put]
  |some t=>
   simp only [FF.put,h0V]
   by_cases h:k=t
   ·simp [h]
   ·simp [h,show¬t=k from fun e=>h e.symm]
theorem hH{F:FF}{d:Option Tmp}{e:Ef}(hb:e.box=false)(k:Nat):(F.app d e).lv k=match e.loc with|some (s,cs)=>if k=s then some cs else F.lv k|none=>F.lv k:=by
 unfold FF.app
 cases hl:e.loc with
 |none=>cases d<;>rfl
 |some q=>
  simp only [hb,h1X,if_false,FF.lset]
  cases d<;>rfl
theorem rO.app(hcfi:qS E cf){o:Oper}{F:FF}{h:Heap}{e:Ef}(hA:rO F)(he:uN E f cf ops true o F.tm F.lv h=some e):rO (F.app o.dst e):=by
 have hb:=(a7P hcfi he).1;have hlv: ∀s,(∃cs,F.lv s=some cs)-> ∃cs,(F.app o.dst e).lv s=some cs:=by
  rintro s ⟨cs,hs⟩;rw [hH hb]
  cases e.loc with
  |none=>exact⟨cs,hs⟩
  |some q=>
   obtain⟨s',cs'⟩:=q;simp only
   by_cases hk:s=s'
   ·exact⟨cs',by rw [if_pos hk]⟩
   ·exact⟨cs,by rw [if_neg hk];exact hs⟩
 intro k s off hk;rw [fJ hb]at hk;split at hk
 case isFalse=>exact hlv s (hA k s off hk)
 rename_i hd;unfold uN at he
 cases hw:dD ops F.tm o with
 |none=>simp [hw]at he
 |some b=>
  simp only [hw]at he
  cases b with
  |false=>simp only [h0V]at he;subst he;simp at hk
  |true=>
   simp only at he;unfold dX at he
   cases hp:eN E f o (bC E F.tm)with
   |some q=>
    obtain⟨v,bx⟩:=q;simp only [hp]at he
    cases bx with
    |none=>
     simp only [h0V]at he;subst he;simp only [h0V]at hk;subst hk;obtain⟨x,o',hx⟩:=d2Z hp
     cases x with
     |tmp t=>exact hlv s (hA t s o' hx)
     |const c=>simp only [bC]at hx;obtain⟨y,_,h2⟩:=h0W.1 hx;cases h2
     |global g=>simp only [bC]at hx;obtain⟨y,_,h2⟩:=h0W.1 hx;cases h2
     |func g=>simp [bC]at hx
    |some cs=>
     simp only [hd,if_true]at he;split at he
     case h_2=>cases he
     rename_i hlv;simp only [h0V]at he;subst he;simp only [h0V]at hk;subst hk;obtain rfl:=d3A hp hd;refine⟨cs,?_⟩;rw [hH rfl];simp
   |none=>
    simp only [hp]at he;exfalso;have hv: ∀tv,e.v=some tv-> ∃x,tv= .v x:=by
     intro tv htv
     cases hl:gD E o (bC E F.tm) F.lv with
     |some v=>
      simp only [hl,h0V]at he;subst he;simp only [h0V]at htv;subst htv;unfold gD at hl
      repeat' split at hl
      all_goals first| (cases hl;done)| (obtain⟨y,_,h2⟩:=h0W.1 hl;exact⟨y,h2.symm⟩)
     |none=>
     simp only [hl]at he
     cases hs:gZ E o (bC E F.tm) F.lv with
     |some v=>simp only [hs,h0V]at he;subst he;cases htv
     |none=>
     simp only [hs]at he
     cases hr:dP E o (bC E F.tm) h with
     |some v=>
      simp only [hr,h0V]at he;subst he;simp only [h0V]at htv;subst htv;exact d3B hr
     |none=>
     simp only [hr]at he
     cases hee:gV E f o (bC E F.tm) h with
     |some q=>
      simp only [hee,h0V]at he;subst he;exact f1N hee htv
     |none=>
     simp only [hee]at he;split at he
     ·split at he
      ·simp only [h0V]at he;subst he;simp only [h0V]at htv;exact⟨_,htv.symm⟩
      ·cases he
     ·cases he
    obtain⟨x,hx⟩:=hv _ hk
    cases hx
theorem d0C{draw:Bool}{o:Oper}{tm:Nat->Option TV}{lv:Nat->Option (List IV)}{h:Heap}{e:Ef}(he:uN E f cf ops draw o tm lv h=some e):e.c≠ .a:=by
 unfold uN at he;split at he
 ·cases he
 ·simp only [h0V]at he;subst he;simp
 ·unfold dX at he
  repeat' split at he
  all_goals first
   | (cases he;done)
   | (simp only [h0V]at he;subst he;first| (simp;done)| (simp only [pS];split<;>simp))
theorem yW{draw:Bool}{n:Nat}{o:Oper}{tm:Nat->Option TV}{lv:Nat->Option (List IV)}{h:Heap}{e:Ef}(he:dE E f cf ops draw (some n) o tm lv h=some e):
  e=⟨.p,some .u,none,false,h⟩ \/ (∃v,aSh E f o (bC E tm) n=some (v,none)/\e=⟨.p,v,none,false,h⟩) \/ ∃v x,aSh E f o (bC E tm) n=some (v,some x)/\h.get n= .free/\e=⟨.a,v,none,false,h.set n x⟩:=by
 unfold dE at he;simp only at he;split at he
 ·cases he
 ·simp only [h0V]at he;exact .inl he.symm
 ·split at he
  ·rename_i v ha;simp only [h0V]at he;exact .inr (.inl ⟨v,ha,he.symm⟩)
  ·rename_i v x ha;split at he
   ·rename_i hf;simp only [h0V]at he;exact .inr (.inr ⟨v,x,ha,hf,he.symm⟩)
   ·cases he
  ·cases he
theorem tE{draw:Bool}{rs:Option Nat}{o:Oper}{tm tm':Nat->Option TV}{lv:Nat->Option (List IV)}{h:Heap}(hh: ∀t∈o.looksAt ops.toArray,tm t=tm' t):dE E f cf ops draw rs o tm lv h=dE E f cf ops draw rs o tm' lv h:=by
 unfold dE
 rw [d3N hh,a0L hh]
 cases rs with
 |none=>rfl
 |some n=>simp only [d3K (jX (E:=E) hh)]
theorem a2K{o:Oper}{tm:Nat->Option TV}{lv:Nat->Option (List IV)}{h h2:Heap}{e:Ef}(he:uN E f cf ops true o tm lv h=some e)(hc:e.c= .r):
  ∃v,dP E o (bC E tm) h=some v/\e.v=some v/\(dP E o (bC E tm) h2=some v-> ∀lv2,uN E f cf ops true o tm lv2 h2=some {e with h:=h2 }):=by
 unfold uN at he⊢
 cases hw:dD ops tm o with
 |none=>simp [hw]at he
 |some b=>
  cases b with
  |false=>
   simp only [hw,h0V]at he;subst he;simp at hc
  |true=>
   simp only [hw]at he⊢;unfold dX at he⊢
   cases hp:eN E f o (bC E tm)with
   |some q=>
    obtain⟨v1,bx⟩:=q;exfalso;simp only [hp]at he
    repeat' split at he
    all_goals first| (cases he;done)| (simp only [h0V]at he;subst he;cases hc)
   |none=>
    simp only [hp]at he⊢
    cases hl:gD E o (bC E tm) lv with
    |some v1=>
     simp only [hl,h0V]at he;subst he
     cases hc
    |none=>
     simp only [hl]at he⊢
     cases hs:gZ E o (bC E tm) lv with
     |some q=>
      obtain⟨q1,q2⟩:=q;simp only [hs,h0V]at he;subst he
      cases hc
     |none=>
      simp only [hs]at he⊢
      cases hr1:dP E o (bC E tm) h with
      |some v1=>
       simp only [hr1,h0V]at he;subst he;refine⟨v1,rfl,rfl,fun hr lv2=>?_⟩;have hn:=mQ (E:=E) (f:=f) (o:=o) (ev:=bC E tm) (h:=h) (.inl (by simp [hr1])) lv2;simp only [hn.1,hn.2,hr]
      |none=>
       exfalso;simp only [hr1]at he
       repeat' split at he
       all_goals first| (cases he;done)| (simp only [h0V]at he;subst he;first| (cases hc;done)| (simp only at hc;unfold pS at hc;split at hc<;>cases hc))
theorem jB(h:Heap)(i:Option Nat):mP h h i:=by cases i<;>simp [mP]
theorem eO(hcfi:qS E cf){rs:Option Nat}{o:Oper}{tm:Nat->Option TV}{lv:Nat->Option (List IV)}{h:Heap}{e:Ef}(he:dE E f cf ops true rs o tm lv h=some e):
  e.box=false/\
  (e.c= .p->e.loc=none/\e.h=h/\∀lv2 h2,dE E f cf ops true rs o tm lv2 h2=some {e with h:=h2 })/\
  (e.c= .l->e.loc=none/\e.h=h/\∃t s off,t∈o.looksAt ops.toArray/\tm t=some (.l s off)/\(∃cs,lv s=some cs)/\∀lv2 h2,lv2 s=lv s->dE E f cf ops true rs o tm lv2 h2=some {e with h:=h2 })/\
  (e.c= .s->e.h=h/\∃t s off cs,t∈o.looksAt ops.toArray/\tm t=some (.l s off)/\(∃cs,lv s=some cs)/\e.loc=some (s,cs)/\∀lv2 h2,lv2 s=lv s->dE E f cf ops true rs o tm lv2 h2=some {e with h:=h2 })/\
  (e.c= .r->e.loc=none/\e.h=h/\(∀lv2 h2,mP h h2 (jO o (bC E tm))->dE E f cf ops true rs o tm lv2 h2=some {e with h:=h2 })/\∀id,jO o (bC E tm)=some id->h.get id≠ .free)/\
  (e.c= .e->e.loc=none/\∀lv2,dE E f cf ops true rs o tm lv2 h=some e)/\
  (e.c= .b->e.h=h/\∃d cs,o.dst=some d/\e.loc=some (d,cs)/\lv d=none/\∀lv2 h2,lv2 d=none->dE E f cf ops true rs o tm lv2 h2=some {e with h:=h2 })/\
  (e.c= .a->e.loc=none/\∃n x,rs=some n/\h.get n= .free/\x≠ .free/\e.h=h.set n x/\∀lv2 h2,h2.get n= .free->dE E f cf ops true rs o tm lv2 h2=some {e with h:=h2.set n x }):=by
 cases rs with
 |none=>
  simp only [dE]at he⊢;have hna:=d0C he;obtain⟨b,p,l,s,r,e',x⟩:=a7P hcfi he;refine⟨b,p,l,s,fun hc=>⟨(r hc).1,(r hc).2.1,fun lv2 h2 hs=>?_,fun id hid=>?_⟩,e',x,fun hc=>absurd hc hna⟩
  ·obtain⟨v,q1,q2,q3⟩:=a2K (h2:=h2) he hc;exact q3 (yU q1 hs) lv2
  ·obtain⟨v,q1,q2,q3⟩:=a2K (h2:=h) he hc;exact c9Y q1 hid
 |some n=>
  unfold dE at he
  cases hw:dD ops tm o with
  |none=>simp [hw]at he
  |some b=>
   simp only [hw]at he
   cases b with
   |false=>
    simp only [h0V]at he;subst he;refine⟨rfl,fun _=>⟨rfl,rfl,fun lv2 h2=>by simp [dE,hw]⟩,?_,?_,?_,?_,?_,?_⟩<;>intro hc<;>simp at hc
   |true=>
    simp only at he
    cases ha:aSh E f o (bC E tm) n with
    |none=>simp [ha]at he
    |some q=>
     obtain⟨v,x⟩:=q;simp only [ha]at he
     cases x with
     |none=>
      simp only [h0V]at he;subst he;refine⟨rfl,fun _=>⟨rfl,rfl,fun lv2 h2=>by simp [dE,hw,ha]⟩,?_,?_,?_,?_,?_,?_⟩<;>intro hc<;>simp at hc
     |some x=>
      simp only at he;split at he
      case h_2=>cases he
      rename_i hf;simp only [h0V]at he;subst he;refine⟨rfl,?_,?_,?_,?_,?_,?_,fun _=>⟨rfl,n,x,rfl,hf,d3C ha,rfl,fun lv2 h2 h0=>by simp [dE,hw,ha,h0]⟩⟩<;>intro hc<;>simp at hc
theorem rO.appA(hcfi:qS E cf){rs:Option Nat}{o:Oper}{F:FF}{h:Heap}{e:Ef}(hA:rO F)(he:dE E f cf ops true rs o F.tm F.lv h=some e):rO (F.app o.dst e):=by
 cases rs with
 |none=>exact hA.app hcfi he
 |some n=>
  have key:e.loc=none/\e.box=false/\∀tv,e.v=some tv->(∃x,tv= .v x) \/tv= .u:=by
   rcases yW he with rfl| ⟨v,ha,rfl⟩| ⟨v,x,ha,_,rfl⟩
   ·exact⟨rfl,rfl,fun tv e=>by simp at e;exact .inr e.symm⟩
   ·exact⟨rfl,rfl,fun tv e=> .inl (e8W ha e)⟩
   ·exact⟨rfl,rfl,fun tv e=> .inl (e8W ha e)⟩
  intro k s off hk;rw [fJ key.2.1]at hk;rw [hH key.2.1,key.1];split at hk
  ·rcases key.2.2 _ hk with⟨x,hx⟩|hx<;>cases hx
  ·exact hA k s off hk
theorem g5D(hcfi:qS E cf){ra ri:Option Nat}{a i:Oper}{F:FF}{h:Heap}{ea ei:Ef}(hA:rO F)(hap:Oper.apart ops.toArray a i=true)(ha:dE E f cf ops true ra a F.tm F.lv h=some ea)
  (hi:dE E f cf ops true ri i (F.app a.dst ea).tm (F.app a.dst ea).lv ea.h=some ei) (hcl:jA ea.c ei.c=false)
  (hra:ea.c= .a->ei.c= .r-> ∀n id,ra=some n->jO i (bC E F.tm)=some id->n≠id):
  ∃ei' ea',dE E f cf ops true ri i F.tm F.lv h=some ei'/\dE E f cf ops true ra a (F.app i.dst ei').tm (F.app i.dst ei').lv ei'.h=some ea'/\ei'.c=ei.c/\ea'.c=ea.c/\
   (F.app i.dst ei').app a.dst ea'=(F.app a.dst ea).app i.dst ei/\ea'.h=ei.h/\ea'.v=ea.v:=by
 obtain⟨s1,s2,s3⟩:=Oper.apart_spec hap;obtain⟨ab,ap,al,as_,ar,ae,ax,aa⟩:=eO hcfi ha;have hci:dE E f cf ops true ri i (F.app a.dst ea).tm (F.app a.dst ea).lv ea.h=dE E f cf ops true ri i F.tm (F.app a.dst ea).lv ea.h:=by
  refine tE (fun t ht=>?_);rw [fJ ab];rw [if_neg (fun e=>s1 t e ht)]
 rw [hci]at hi;obtain⟨ib,ip,il,is_,ir,ie,ix,ia⟩:=eO hcfi hi;have hlv:ea.loc=none->(F.app a.dst ea).lv=F.lv:=fun e=>funext fun k=>by rw [hH ab,e]
 have hloc:ea.loc=none\/ ∃s cs,ea.loc=some (s,cs)/\((ea.c= .s/\∃c0,F.lv s=some c0) \/ (ea.c= .b/\a.dst=some s/\F.lv s=none)):=by
  cases hc:ea.c with
  |p=>exact .inl (ap hc).1
  |l=>exact .inl (al hc).1
  |r=>exact .inl (ar hc).1
  |e=>exact .inl (ae hc).1
  |a=>exact .inl (aa hc).1
  |s=>
   obtain⟨_,t,s,off,cs,_,_,h1,h2,_⟩:=as_ hc;exact .inr ⟨s,cs,h2,.inl ⟨rfl,h1⟩⟩
  |b=>
   obtain⟨_,d,cs,h1,h2,h3,_⟩:=ax hc;exact .inr ⟨d,cs,h2,.inr ⟨rfl,h1,h3⟩⟩
 have hlv1: ∀k,(F.app a.dst ea).lv k=match ea.loc with|some (s,cs)=>if k=s then some cs else F.lv k|none=>F.lv k:=fun k=>hH ab k
 have hkeep: ∀s,(∃cs,F.lv s=some cs)->jA ea.c .s=false->(F.app a.dst ea).lv s=F.lv s:=by
  rintro s ⟨cs,hs⟩ hcs;rw [hlv1];rcases hloc with hl| ⟨s',cs',hl,hk|hk⟩
  ·rw [hl]
  ·rw [hk.1]at hcs;simp [jA]at hcs
  ·rw [hl];simp only;rw [if_neg];rintro rfl;rw [hk.2.2]at hs;cases hs
 have hin: ∀t s off,t∈i.looksAt ops.toArray->F.tm t=some (.l s off)-> ∃cs,F.lv s=some cs:=fun t s off _ e=>hA t s off e
 obtain⟨ei',e1,e2,e3,e4,e5⟩: ∃ei',dE E f cf ops true ri i F.tm F.lv h=some ei'/\ei'.c=ei.c/\ei'.v=ei.v/\ei'.loc=ei.loc/\((ei.c= .e/\ei'.h=ei.h/\ea.h=h) \/ ((ei.c≠ .e/\ei.c≠ .a)/\ei'.h=h/\ei.h=ea.h) \/ (ei.c= .a/\∃n x,x≠ .free/\h.get n= .free/\ea.h.get n= .free/\ei'.h=h.set n x/\ei.h=ea.h.set n x)):=by
  cases hc:ei.c with
  |p=>
   obtain⟨p1,p2,p3⟩:=ip hc;exact⟨_,p3 F.lv h,hc,rfl,rfl,.inr (.inl ⟨by simp,rfl,p2⟩)⟩
  |l=>
   obtain⟨p1,p2,t,s,off,q1,q2,q3,p3⟩:=il hc;have hk:(F.app a.dst ea).lv s=F.lv s:=by
    rw [hlv1];rcases hloc with hl| ⟨s',cs',hl,hk|hk⟩
    ·rw [hl]
    ·rw [hk.1,hc]at hcl;simp [jA]at hcl
    ·rw [hl];simp only;rw [if_neg];rintro rfl;obtain⟨c0,h0⟩:=hin t _ off q1 q2;rw [hk.2.2]at h0;cases h0
   exact⟨_,p3 F.lv h hk.symm,hc,rfl,rfl,.inr (.inl ⟨by simp,rfl,p2⟩)⟩
  |s=>
   obtain⟨p2,t,s,off,cs,q1,q2,q3,q4,p3⟩:=is_ hc;have hk:(F.app a.dst ea).lv s=F.lv s:=hkeep s (hin t s off q1 q2) (by rw [hc]at hcl;exact hcl);exact⟨_,p3 F.lv h hk.symm,hc,rfl,rfl,.inr (.inl ⟨by simp,rfl,p2⟩)⟩
  |b=>
   obtain⟨p2,d,cs,q1,q2,q3,p3⟩:=ix hc;have hk:F.lv d=none:=by
    rw [hlv1]at q3;rcases hloc with hl| ⟨s',cs',hl,hk⟩
    ·rw [hl]at q3;exact q3
    ·rw [hl]at q3;simp only at q3;split at q3
     ·cases q3
     ·exact q3
   exact⟨_,p3 F.lv h hk,hc,rfl,rfl,.inr (.inl ⟨by simp,rfl,p2⟩)⟩
  |r=>
   obtain⟨p1,p2,p3,p4⟩:=ir hc;have hsm:mP ea.h h (jO i (bC E F.tm)):=by
    cases hca:ea.c with
    |p=>rw [(ap hca).2.1];exact jB _ _
    |l=>rw [(al hca).2.1];exact jB _ _
    |s=>rw [(as_ hca).1];exact jB _ _
    |b=>rw [(ax hca).1];exact jB _ _
    |r=>rw [(ar hca).2.1];exact jB _ _
    |e=>rw [hca,hc]at hcl;simp [jA]at hcl
    |a=>
     obtain⟨_,n,x,q1,q2,q3,q4,_⟩:=aa hca
     cases hid:jO i (bC E F.tm)with
     |none=>trivial
     |some id=>
      have:=hra hca hc n id q1 hid;show h.get id=ea.h.get id;rw [q4,Heap.get_set,if_neg (fun e=>this e.symm)]
   exact⟨_,p3 F.lv h hsm,hc,rfl,rfl,.inr (.inl ⟨by simp,rfl,p2⟩)⟩
  |a=>
   obtain⟨p1,n,x,q1,q2,q3,q4,p3⟩:=ia hc;have hf:h.get n= .free:=by
    cases hca:ea.c with
    |p=>rw [(ap hca).2.1]at q2;exact q2
    |l=>rw [(al hca).2.1]at q2;exact q2
    |s=>rw [(as_ hca).1]at q2;exact q2
    |b=>rw [(ax hca).1]at q2;exact q2
    |r=>rw [(ar hca).2.1]at q2;exact q2
    |e=>rw [hca,hc]at hcl;simp [jA]at hcl
    |a=>
     obtain⟨_,n',x',_,_,r3,r4,_⟩:=aa hca;rw [r4,Heap.get_set]at q2;split at q2
     ·exact absurd q2 r3
     ·exact q2
   exact⟨_,p3 F.lv h hf,hc,rfl,rfl,.inr (.inr ⟨rfl,n,x,q3,hf,q2,rfl,q4⟩)⟩
  |e=>
   obtain⟨p1,p3⟩:=ie hc;have hh:ea.h=h:=by
    cases hca:ea.c with
    |p=>exact(ap hca).2.1
    |l=>exact(al hca).2.1
    |s=>exact(as_ hca).1
    |b=>exact(ax hca).1
    |r=>rw [hca,hc]at hcl;simp [jA]at hcl
    |e=>rw [hca,hc]at hcl;simp [jA]at hcl
    |a=>rw [hca,hc]at hcl;simp [jA]at hcl
   have:=p3 F.lv;rw [hh]at this;exact⟨_,this,hc,rfl,rfl,.inl ⟨rfl,rfl,hh⟩⟩
 obtain⟨ib',ip',il',is',ir',ie',ix',ia'⟩:=eO hcfi e1;have hca2:dE E f cf ops true ra a (F.app i.dst ei').tm (F.app i.dst ei').lv ei'.h=dE E f cf ops true ra a F.tm (F.app i.dst ei').lv ei'.h:=by
  refine tE (fun t ht=>?_);rw [fJ ib'];rw [if_neg (fun e=>s3 t e ht)]
 have hloc2:ei'.loc=none\/ ∃s cs,ei'.loc=some (s,cs)/\((ei'.c= .s/\∃c0,F.lv s=some c0) \/ (ei'.c= .b/\i.dst=some s/\F.lv s=none)):=by
  cases hc:ei'.c with
  |p=>exact .inl (ip' hc).1
  |l=>exact .inl (il' hc).1
  |r=>exact .inl (ir' hc).1
  |e=>exact .inl (ie' hc).1
  |a=>exact .inl (ia' hc).1
  |s=>
   obtain⟨_,t,s,off,cs,_,_,h1,h2,_⟩:=is' hc;exact .inr ⟨s,cs,h2,.inl ⟨rfl,h1⟩⟩
  |b=>
   obtain⟨_,d,cs,h1,h2,h3,_⟩:=ix' hc;exact .inr ⟨d,cs,h2,.inr ⟨rfl,h1,h3⟩⟩
 have hlv2: ∀k,(F.app i.dst ei').lv k=match ei'.loc with|some (s,cs)=>if k=s then some cs else F.lv k|none=>F.lv k:=fun k=>hH ib' k
 have hcl2:jA ea.c ei'.c=false:=by rw [e2];exact hcl
 have hkeep2: ∀s,(∃cs,F.lv s=some cs)->ei'.c≠ .s->(F.app i.dst ei').lv s=F.lv s:=by
  rintro s ⟨cs,hs⟩ hcs;rw [hlv2];rcases hloc2 with hl| ⟨s',cs',hl,hk|hk⟩
  ·rw [hl]
  ·exact absurd hk.1 hcs
  ·rw [hl];simp only;rw [if_neg];rintro rfl;rw [hk.2.2]at hs;cases hs
 obtain⟨ea',g1,g2,g3,g4,g5⟩: ∃ea',dE E f cf ops true ra a F.tm (F.app i.dst ei').lv ei'.h=some ea'/\ea'.c=ea.c/\ea'.v=ea.v/\ea'.loc=ea.loc/\ea'.h=ei.h:=by
  cases hc:ea.c with
  |p=>
   obtain⟨p1,p2,p3⟩:=ap hc;refine⟨_,p3 _ _,hc,rfl,rfl,?_⟩;rcases e5 with⟨_,q1,_⟩| ⟨_,q1,q2⟩| ⟨_,n,x,_,_,_,q1,q2⟩
   ·exact q1
   ·show ei'.h=_;rw [q1,q2,p2]
   ·show ei'.h=_;rw [q1,q2,p2]
  |l=>
   obtain⟨p1,p2,t,s,off,t1,t2,t3,p3⟩:=al hc;refine⟨_,p3 _ _ (hkeep2 s t3 (fun e=>by rw [hc,e]at hcl2;simp [jA]at hcl2)),hc,rfl,rfl,?_⟩;rcases e5 with⟨_,q1,_⟩| ⟨_,q1,q2⟩| ⟨_,n,x,_,_,_,q1,q2⟩
   ·exact q1
   ·show ei'.h=_;rw [q1,q2,p2]
   ·show ei'.h=_;rw [q1,q2,p2]
  |s=>
   obtain⟨p2,t,s,off,cs,t1,t2,t3,t4,p3⟩:=as_ hc;refine⟨_,p3 _ _ (hkeep2 s t3 (fun e=>by rw [hc,e]at hcl2;simp [jA]at hcl2)),hc,rfl,rfl,?_⟩;rcases e5 with⟨_,q1,_⟩| ⟨_,q1,q2⟩| ⟨_,n,x,_,_,_,q1,q2⟩
   ·exact q1
   ·show ei'.h=_;rw [q1,q2,p2]
   ·show ei'.h=_;rw [q1,q2,p2]
  |b=>
   obtain⟨p2,d,cs,t1,t2,t3,p3⟩:=ax hc;have hk:(F.app i.dst ei').lv d=none:=by
    rw [hlv2];rcases hloc2 with hl| ⟨s',cs',hl,hk|hk⟩
    ·rw [hl];exact t3
    ·rw [hl];simp only;rw [if_neg]
     ·exact t3
     ·rintro rfl;obtain⟨c0,hc0⟩:=hk.2;rw [t3]at hc0;cases hc0
    ·rw [hl];simp only;rw [if_neg]
     ·exact t3
     ·rintro rfl;exact s2 _ t1 hk.2.1
   refine⟨_,p3 _ _ hk,hc,rfl,rfl,?_⟩;rcases e5 with⟨_,q1,_⟩| ⟨_,q1,q2⟩| ⟨_,n,x,_,_,_,q1,q2⟩
   ·exact q1
   ·show ei'.h=_;rw [q1,q2,p2]
   ·show ei'.h=_;rw [q1,q2,p2]
  |r=>
   obtain⟨p1,p2,p3,p4⟩:=ar hc;rcases e5 with⟨q0,q1,_⟩| ⟨_,q1,q2⟩| ⟨_,n,x,_,q5,_,q1,q2⟩
   ·rw [hc,q0]at hcl;simp [jA]at hcl
   ·rw [q1];exact⟨_,p3 _ h (jB _ _),hc,rfl,rfl,by show h=ei.h;rw [q2,p2]⟩
   ·rw [q1];refine⟨_,p3 _ _ ?_,hc,rfl,rfl,by show h.set n x=ei.h;rw [q2,p2]⟩
    cases hid:jO a (bC E F.tm)with
    |none=>trivial
    |some id=>
     have:=p4 id hid;show(h.set n x).get id=h.get id;rw [Heap.get_set,if_neg (fun e=>this (by rw [e];exact q5))]
  |e=>
   obtain⟨p1,p3⟩:=ae hc;rcases e5 with⟨q0,q1,_⟩| ⟨_,q1,q2⟩| ⟨q0,_⟩
   ·rw [hc,q0]at hcl;simp [jA]at hcl
   ·rw [q1];exact⟨_,p3 _,hc,rfl,rfl,q2.symm⟩
   ·rw [hc,q0]at hcl;simp [jA]at hcl
  |a=>
   obtain⟨p1,n',x',p2,p3,p4,p5,p6⟩:=aa hc;rcases e5 with⟨q0,q1,_⟩| ⟨_,q1,q2⟩| ⟨_,n,x,q4,q5,q6,q1,q2⟩
   ·rw [hc,q0]at hcl;simp [jA]at hcl
   ·rw [q1];exact⟨_,p6 _ h p3,hc,rfl,rfl,by show h.set n' x'=ei.h;rw [q2,p5]⟩
   ·have hne:n'≠n:=by
     rintro rfl;rw [p5,Heap.get_set,if_pos rfl]at q6;exact p4 q6
    rw [q1];refine⟨_,p6 _ (h.set n x) (by rw [Heap.get_set,if_neg hne];exact p3),hc,rfl,rfl,?_⟩;show(h.set n x).set n' x'=ei.h;rw [q2,p5,Heap.set_comm _ _ _ hne]
 rw [<-hca2]at g1;have ab':ea'.box=false:=(eO hcfi g1).1;refine⟨ei',ea',e1,g1,e2,g2,?_,g5,g3⟩;refine FF.ext' (fun k=>?_) (fun k=>?_)
 ·rw [fJ ab',fJ ib',fJ ib,fJ ab,e3,g3]
  by_cases h1:a.dst=some k
  ·have h2:i.dst≠some k:=s2 k h1;simp [h1,h2]
  ·simp [h1]
 ·rw [hH ab',hH ib',hH ib,hH ab,e4,g4];rcases hloc with hl| ⟨s,cs,hl,hk⟩
  ·rw [hl]
  ·rcases hloc2 with hl2| ⟨s',cs',hl2,hk2⟩
   ·rw [e4]at hl2;rw [hl2]
   ·rw [e4]at hl2;rw [hl,hl2];simp only;have hne:s≠s':=by
     rintro rfl;rcases hk with hk|hk<;>rcases hk2 with hk2|hk2
     ·rw [hk.1,hk2.1]at hcl2;simp [jA]at hcl2
     ·obtain⟨c0,h0⟩:=hk.2;rw [hk2.2.2]at h0;cases h0
     ·obtain⟨c0,h0⟩:=hk2.2;rw [hk.2.2]at h0;cases h0
     ·exact s2 _ hk.2.1 hk2.2.1
    by_cases h1:k=s
    ·subst h1;simp [hne]
    ·simp [h1]
theorem d0D{rs:Option Nat}{o:Oper}{tm:Nat->Option TV}{lv:Nat->Option (List IV)}{h h2:Heap}{e:Ef}(he:dE E f cf ops true rs o tm lv h=some e)(hc:e.c= .r){v:TV}(hr:dP E o (bC E tm) h2=some v)(hv:e.v=some v):
  dE E f cf ops true rs o tm lv h2=some {e with h:=h2 } :=by
 cases rs with
 |none=>
  obtain⟨v',_,q2,q3⟩:=a2K (h2:=h2) he hc;rw [q2]at hv;simp only [h0V]at hv;subst hv;exact q3 hr lv
 |some n=>
  exfalso;rcases yW he with rfl| ⟨v,ha,rfl⟩| ⟨v,x,ha,_,rfl⟩<;>cases hc
theorem g0F(hcfi:qS E cf){ra ri:Option Nat}{a i:Oper}{F:FF}{h:Heap}{ea ei:Ef}(hap:Oper.apart ops.toArray a i=true)(ha:dE E f cf ops true ra a F.tm F.lv h=some ea)
  (hi:dE E f cf ops true ri i (F.app a.dst ea).tm (F.app a.dst ea).lv ea.h=some ei) (hac:ea.c= .r) (hic:ei.c= .e) (hsame:dE E f cf ops true ra a F.tm F.lv ei.h=some {ea with h:=ei.h }):
  dE E f cf ops true ri i F.tm F.lv h=some ei/\dE E f cf ops true ra a (F.app i.dst ei).tm (F.app i.dst ei).lv ei.h=some {ea with h:=ei.h } /\
   (F.app i.dst ei).app a.dst {ea with h:=ei.h } =(F.app a.dst ea).app i.dst ei:=by
 obtain⟨s1,s2,s3⟩:=Oper.apart_spec hap;obtain⟨ab,ap,al,as_,ar,ae,ax,aa⟩:=eO hcfi ha;obtain⟨ar1,ar2,_,_⟩:=ar hac;have hl1:(F.app a.dst ea).lv=F.lv:=funext fun k=>by rw [hH ab,ar1]
 have hci:dE E f cf ops true ri i (F.app a.dst ea).tm (F.app a.dst ea).lv ea.h=dE E f cf ops true ri i F.tm (F.app a.dst ea).lv ea.h:=by
  refine tE (fun t ht=>?_);rw [fJ ab];rw [if_neg (fun e=>s1 t e ht)]
 rw [hci,hl1,ar2]at hi;obtain⟨ib,ip,il,is_,ir,ie,ix,ia⟩:=eO hcfi hi;obtain⟨ie1,_⟩:=ie hic;have hl2:(F.app i.dst ei).lv=F.lv:=funext fun k=>by rw [hH ib,ie1]
 have hca:dE E f cf ops true ra a (F.app i.dst ei).tm (F.app i.dst ei).lv ei.h=dE E f cf ops true ra a F.tm (F.app i.dst ei).lv ei.h:=by
  refine tE (fun t ht=>?_);rw [fJ ib];rw [if_neg (fun e=>s3 t e ht)]
 refine⟨hi,by rw [hca,hl2];exact hsame,FF.ext' (fun k=>?_) (fun k=>?_)⟩
 ·rw [fJ (e:= {ea with h:=ei.h }) ab,fJ ib,fJ ib,fJ ab]
  by_cases h1:a.dst=some k
  ·have h2:i.dst≠some k:=s2 k h1;simp [h1,h2]
  ·simp [h1]
 ·rw [hH (e:= {ea with h:=ei.h }) ab,hH ib,hH ib,hH ab,ie1]
end
structure FR(M:Meta)(h:Heap)(w:World)(B n:Nat)(F:FF)(a:Act)(pb:Nat->Nat):Prop where
 size:n<=a.tmps.size
 tm: ∀t tv,F.tm t=some tv->TR M pb tv (a.tmps.getD t undef)
 loc: ∀s cs,F.lv s=some cs->B<=pb s/\¬Wr M h (pb s)/\(∀o,M.im (pb s) o=none)/\∃rc el fz,w.heap[pb s]?=some (.cells rc el fz)/\(∀i,i<rc.size->w.frozen? ⟨pb s,i,none⟩=false)/\eB M cs rc.toList
 one: ∀s s' cs cs',F.lv s=some cs->F.lv s'=some cs'->pb s=pb s'->s=s'
 addr: ∀k s off,F.tm k=some (.l s off)-> ∃cs,F.lv s=some cs
def GOK(E:Env)(M:Meta):Prop:= ∀g cs,E.G g=some cs->VR M.pure (.vref cs 0) (.pointer (some ⟨g,0,none⟩))
theorem Ext.pures{M M':Meta}(hE:Ext M M'):Ext M.pure M'.pure:=⟨h1D _,fun _ _ e=>(by cases e),hE.im,hE.bsz,fun i hi=>absurd hi (h4Q i),fun i hi=>absurd hi (h4Q i)⟩
theorem Ext.pure(M:Meta):Ext M.pure M:=⟨h1N _,fun _ _ e=>(by cases e),fun _ _ _ e=>e,fun _ _ e=>e,fun i hi=>absurd hi (h4Q i),fun i hi=>absurd hi (h4Q i)⟩
theorem GOK.mono{E:Env}{M M':Meta}(hE:Ext M M')(h:GOK E M):GOK E M':=fun g cs e=>(h g cs e).mono hE.pures
def b4D(E:Env)(cf:FuncId->List IV->Heap->Option (IV×Heap)):Prop:=
 ∀ g xs h v h', cf g xs h = some (v, h') → (∃ fn, E.P.funcs[g]? = some fn ∧ fn.body.isNone = false ∧ (fn.name == "runtime.NumGoroutine") = false) ∧ ∀ M w rs, Inv M h w → GOK E M → cW M xs rs →
  Calls E.P g rs.toArray w fun e w'=> ∃r M',e= .returned r/\VR M' v r/\Inv M' h' w'/\Pres w.heap.size M h w M' h' w'
section
variable {E:Env} {M M':Meta} {h h':Heap} {w w':World} {B n:Nat} {F:FF} {a:Act} {pb:Nat->Nat}
theorem TR.mono(hE:Ext M M'){tv:TV}{r:Value}(ht:TR M pb tv r):TR M' pb tv r:=by
 cases tv with
 |v x=>exact VR.mono hE ht
 |l s off=>exact ht
 |u=>exact ht
theorem c5J(hG:GOK E M)(hF:FR M h w B n F a pb): ∀x tv,bC E F.tm x=some tv->TR M pb tv (a.eval x):=by
 intro x tv hx
 cases x with
 |tmp t=>exact hF.tm t tv hx
 |const v=>
  simp only [bC]at hx;obtain⟨y,h1,h2⟩:=h0W.1 hx;subst h2;exact(uQ (M:=M) h1).1
 |global g=>
  simp only [bC]at hx;obtain⟨y,h1,h2⟩:=h0W.1 hx;subst h2;exact(hG g y h1).mono (Ext.pure M)
 |func g=>
  simp [bC]at hx;subst hx;exact a2G (cW.nil M) (cW.nil M)
theorem FR.step(hF:FR M h w B n F a pb)(hp:Pres w.heap.size M h w M' h' w'):FR M' h' w' B n F a pb where
 size:=hF.size
 tm:=fun t tv e=>(hF.tm t tv e).mono hp.ext
 loc:=fun s cs e=>by
  obtain⟨h1,h2,h3,rc,el,fz,h4,h5,h6⟩:=hF.loc s cs e;obtain⟨k1,k2,k3⟩:=hp.keep (pb s) (cL h4) h2;exact⟨h1,k2,fun o=>(k3 o).trans (h3 o),rc,el,fz,k1.trans h4,fun i hi=>(lA k1).trans (h5 i hi),h6.mono hp.ext⟩
 one:=hF.one
 addr:=hF.addr
theorem b4E(t:Array Value)(d k:Nat)(r:Value)(hd:d<t.size):(t.setIfInBounds d r).getD k undef=if k=d then r else t.getD k undef:=by
 simp only [h3G,h3F]
 by_cases hk:k=d
 ·subst hk;simp [hd]
 ·rw [if_neg (fun e=>hk e.symm),if_neg hk]
theorem FR.put(hF:FR M h w B n F a pb){d:Option Tmp}(hd: ∀t,d=some t->t<n){v:Option TV}{r:Value}(hv: ∀tv,v=some tv->TR M pb tv r)(hl: ∀s off,v=some (.l s off)-> ∃cs,F.lv s=some cs):FR M h w B n (F.put d v) (a.put d r) pb:=by
 cases d with
 |none=>exact hF
 |some t=>
  have ht:=hd t rfl;have hs:=hF.size;refine⟨by simpa [Act.put]using hF.size,fun k tv e=>?_,hF.loc,hF.one,fun k s off e=>?_⟩
  case refine_2=>
   simp only [FF.put]at e
   by_cases hk:k=t
   ·rw [if_pos hk]at e;exact hl s off e
   ·rw [if_neg hk]at e;exact hF.addr k s off e
  simp only [FF.put]at e;simp only [Act.put];rw [b4E _ _ _ _ (h1C ht hs)]
  by_cases hk:k=t
  ·rw [if_pos hk]at e⊢;exact hv tv e
  ·rw [if_neg hk]at e⊢;exact hF.tm k tv e
theorem Inv.apart(hI:Inv M h w){b:Nat}(hb: ¬Wr M h b)(hm: ∀o,M.im b o=none)(hk: ∀k,k≠b->k<w.heap.size->w'.heap[k]?=w.heap[k]?)(hs:w.heap.size<=w'.heap.size):Inv M h w' where
 nid:=hI.nid
 fresh:=hI.fresh
 freshl:=hI.freshl
 cells:=fun id cs e=>by
  obtain⟨c,rc,h1,h2,h3⟩:=hI.cells id cs e;have hc:c≠b:=fun e'=>hb ⟨id,by simp [Wb,e,h1,e']⟩
  exact⟨c,rc,h1,h2.keep (hk c hc h2.lt) rfl,h3⟩
 tips:=fun id n e=>by
  obtain⟨h0,c,e',rc,h1,h2,h3⟩:=hI.tips id n e;have hc:c≠b:=fun e'=>hb ⟨id,by simp [Wb,e,h1,e']⟩
  exact⟨h0,c,e',rc,h1,h2.keep (hk c hc h2.lt) rfl,h3⟩
 maps:=fun id es e=>by
  obtain⟨c,ents,cl,h1,h2,h3⟩:=hI.maps id es e;have hc:c≠b:=fun e'=>hb ⟨id,by simp [Wb,e,h1,e']⟩
  exact⟨c,ents,cl,h1,(hk c hc (cL h2)).trans h2,h3⟩
 im:=fun c o v e=>by
  have hc:c≠b:=fun e'=>by subst e';rw [hm]at e;simp at e
  rw [oD (hk c hc (hI.im_lt e))];exact hI.im c o v e
 bsz:=fun c n e=>by have:=hI.bsz c n e;omega
 one:=hI.one
 resv:=hI.resv
structure Nxt(E:Env)(B n:Nat)(M:Meta)(h:Heap)(w:World)(a:Act)(F':FF)(h':Heap)(a':Act)(w':World)(M':Meta)(pb':Nat->Nat):Prop where
 fr:FR M' h' w' B n F' a' pb'
 inv:Inv M' h' w'
 glob:GOK E M'
 pres:Pres B M h w M' h' w'
 defers:a'.defers=a.defers
theorem a7Q{ops:List Oper}{o:Oper}{b:Bool}(hF:FR M h w B n F a pb)(hw:dD ops F.tm o=some b):Region.wanted o (yielded ops.toArray a.tmps)=b:=by
 unfold dD at hw;unfold Region.wanted
 cases hg:o.guard with
 |none=>simp [hg]at hw;simp [hw]
 |some q=>
  obtain⟨j,c⟩:=q;simp only [hg]at hw⊢;split at hw
  case h_2=>simp at hw
  rename_i d hd;split at hw
  case h_3=>simp at hw
  case h_2=>
   rename_i hx;simp at hw;subst hw;have hv:a.tmps.getD d undef=undef:=hF.tm d _ hx;have hy:yielded ops.toArray a.tmps j=none:=by
    simp only [yielded,h4I,hd,Option.bind_some];rw [h3G]at hv
    cases hq:a.tmps[d]? with
    |none=>rfl
    |some y=>rw [hq]at hv;simp at hv;subst hv;rfl
   rw [hy];rfl
  rename_i x hx;simp at hw;subst hw;have hv:VR M (.bool x) (a.tmps.getD d undef):=hF.tm d _ hx;generalize hr:a.tmps.getD d undef=r at hv
  cases hv
  have hlt:a.tmps[d]?=some (.bool x):=by
   rw [h3G]at hr
   cases hq:a.tmps[d]? with
   |none=>rw [hq]at hr;simp [undef]at hr
   |some y=>rw [hq]at hr;simp at hr;rw [hr]
  have hy:yielded ops.toArray a.tmps j=some x:=by
   simp only [yielded,h4I,hd,Option.bind_some,hlt]
  rw [hy]
  cases x<;>cases c<;>rfl
theorem f1Q{f:FuncId}{cf:FuncId->List IV->Heap->Option (IV×Heap)}{ops:List Oper}{draw:Bool}{o:Oper}{e:Ef}(hcf:b4D E cf)(hG:GOK E M)(hI:Inv M h w)(hF:FR M h w B n F a pb)(hB:B<=w.heap.size)
  (hd: ∀t,o.dst=some t->t<n) (he:uN E f cf ops draw o F.tm F.lv h=some e) (Q:Exit->Act->World->Prop) (K:Act->World->Prop)
  (hK: ∀a' w' M' pb',Nxt E B n M h w a (F.app o.dst e) e.h a' w' M' pb'->K a' w'):
  if Region.wanted o (yielded ops.toArray a.tmps)then o.wp E.P a w K Q\/ (o.asks E.P a w/\LetsOut Q)else K (a.put o.dst undef) w:=by
 have hev:=c5J hG hF;have hput: ∀(d:Option Tmp)(r:Value),(a.put d r).defers=a.defers:=fun d r=>by cases d<;>rfl
 unfold uN at he
 cases hw:dD ops F.tm o with
 |none=>simp [hw]at he
 |some b=>
  rw [a7Q hF hw];simp only [hw]at he
  cases b with
  |false=>
   simp only [h0V]at he;subst he;simp only [h1X,if_false];refine hK _ _ M pb ⟨?_,hI,hG,Pres.refl _ _ _ _,hput _ _⟩;exact hF.put hd (fun tv e=>by simp at e;subst e;exact rfl) (fun s off e=>by simp at e)
  |true=>
   simp only at he;simp only [if_true];refine .inl ?_;unfold Oper.wp
   unfold dX at he
   cases hp:eN E f o (bC E F.tm)with
   |some q=>
    obtain⟨v,bx⟩:=q;simp only [hp]at he;rcases e4U (E:=E) (M:=M) (w:=w) (pb:=pb) hI.im hev hp with⟨rfl,r,hr,hv⟩| ⟨cs,d,rc,el,rfl,hdst,rfl,hr,hc⟩| ⟨rfl,hlit⟩
    ·simp only [h0V]at he;subst he;rw [hr];refine hK _ _ M pb ⟨?_,hI,hG,Pres.refl _ _ _ _,hput _ _⟩;exact hF.put hd (fun tv e=>by simp at e;subst e;exact hv) (fun s off e=>by
      simp only [h0V]at e;subst e;obtain⟨x,o',hx⟩:=d2Z hp
      cases x with
      |tmp t=>exact hF.addr t s o' hx
      |const c=>simp only [bC]at hx;obtain⟨y,_,h2⟩:=h0W.1 hx;cases h2
      |global g=>simp only [bC]at hx;obtain⟨y,_,h2⟩:=h0W.1 hx;cases h2
      |func g=>simp [bC]at hx)
    ·simp only [hdst]at he;have hbox: ∃c bb,e=⟨c,some (.l d 0),some (d,cs),bb,h⟩/\(bb=true\/F.lv d=none):=by
      split at he
      ·split at he
       ·rename_i hlv;simp only [h0V]at he;exact⟨_,_,he.symm,.inr hlv⟩
       ·simp at he
      ·simp only [h0V]at he;exact⟨_,_,he.symm,.inl rfl⟩
     obtain⟨c,bb,rfl,hbb⟩:=hbox;have htm: ∀t tv,(F.app (some d) ⟨c,some (.l d 0),some (d,cs),bb,h⟩).tm t=some tv->(t=d/\tv= .l d 0) \/ (t≠d/\F.tm t=some tv/\rF d tv=true):=by
      intro t tv et
      by_cases hk:t=d
      ·left
       refine⟨hk,?_⟩;subst hk
       cases bb with
       |true=>
        simp only [FF.app,if_true,FF.put,FF.lset,FF.clr,h0V]at et;exact et.symm
       |false=>
        simp only [FF.app,h1X,if_false,if_true,FF.put,FF.lset,h0V]at et;exact et.symm
      ·right
       refine⟨hk,?_⟩
       cases bb with
       |true=>
        simp only [FF.app,if_true,FF.put,FF.lset,FF.clr,if_neg hk]at et;split at et
        case h_2=>simp at et
        rename_i x hx;split at et
        case isFalse=>simp at et
        rename_i hna;simp only [h0V]at et;subst et;exact⟨hx,hna⟩
       |false=>
        simp only [FF.app,h1X,if_false,FF.put,FF.lset,if_neg hk]at et;refine⟨et,?_⟩
        cases tv with
        |v y=>rfl
        |u=>rfl
        |l s off=>
         obtain⟨cs2,h2⟩:=hF.addr t s off et;have hn:=hbb.resolve_left (by simp);have:s≠d:=fun e=>by subst e;rw [hn]at h2;cases h2
         simpa [rF]using this
     have hlv: ∀s,(F.app (some d) ⟨c,some (.l d 0),some (d,cs),bb,h⟩).lv s=if s=d then some cs else F.lv s:=by
      intro s
      cases bb<;>simp [FF.app,FF.put,FF.lset,FF.clr]
     rw [hr];simp only [Oper.upon];have nb:=NewBlk.alloc w (.cells rc el);have hnw: ¬Wr M h w.heap.size:=by
      rintro⟨id,e⟩;have:=hI.wb_lt e;omega
     have himn: ∀off,M.im w.heap.size off=none:=by
      intro off
      cases e:M.im w.heap.size off with
      |none=>rfl
      |some v=>have:=hI.im_lt e;omega
     have hI':Inv M h (w.alloc (.cells rc el)):=hI.apart hnw himn (fun k _ hlt=>nb.old k hlt) (by rw [nb.size];omega);refine hK _ _ M (fun s=>if s=d then w.heap.size else pb s) ⟨?_,hI',hG,⟨Ext.refl M,by rw [nb.size];omega,rfl,rfl,rfl,fun k hk hn=>⟨nb.old k (by omega),hn,fun _=>rfl⟩⟩,hput _ _⟩;have hsz:=hF.size;have hdn:=hd d hdst;refine⟨?_,?_,?_,?_,?_⟩
     ·rw [hdst];simpa [Act.put]using hF.size
     ·intro t tv et;rw [hdst]at et⊢;simp only [Act.put];rw [b4E _ _ _ _ (h1C hdn hsz)];rcases htm t tv et with⟨hk,rfl⟩| ⟨hk,hx,hna⟩
      ·rw [if_pos hk];simp [TR]
      ·rw [if_neg hk];have:=hF.tm t tv hx
       cases tv with
       |v y=>exact this
       |l s off=>
        have hsd:s≠d:=by simpa [rF]using hna
        simpa [TR,hsd]using this
       |u=>exact this
     ·intro s cs' es;rw [hdst,hlv]at es
      by_cases hk:s=d
      ·rw [if_pos hk]at es⊢;simp only [h0V]at es;subst es;exact⟨hB,hnw,himn,rc,el,(0,0),nb.new,fun i hi=>iP nb.new (.inl (h1D _)) i hi,hc⟩
      ·rw [if_neg hk]at es⊢;obtain⟨h1,h2,h3,rc',el',fz',h4,h5,h6⟩:=hF.loc s cs' es;have hlt:=cL h4;exact⟨h1,h2,h3,rc',el',fz',(nb.old _ hlt).trans h4,fun i hi=>(lA (nb.old _ hlt)).trans (h5 i hi),h6⟩
     ·intro s s' c1 c2 e1 e2 e3;rw [hdst,hlv]at e1 e2
      by_cases hk:s=d
      ·by_cases hk':s'=d
       ·rw [hk,hk']
       ·rw [if_neg hk']at e2 e3;rw [if_pos hk]at e3;obtain⟨_,_,_,rc',el',fz',h4,_⟩:=hF.loc s' c2 e2;have:=cL h4;omega
      ·rw [if_neg hk]at e1 e3
       by_cases hk':s'=d
       ·rw [if_pos hk']at e3;obtain⟨_,_,_,rc',el',fz',h4,_⟩:=hF.loc s c1 e1;have:=cL h4;omega
       ·rw [if_neg hk']at e2 e3;exact hF.one s s' c1 c2 e1 e2 e3
     ·intro k s off e;rw [hdst]at e⊢;rw [hlv]
      by_cases hk:s=d
      ·exact⟨cs,by rw [if_pos hk]⟩
      ·rw [if_neg hk];rcases htm k _ e with⟨_,he2⟩| ⟨_,hx,_⟩
       ·simp at he2;exact absurd he2.1 hk
       ·exact hF.addr k s off hx
    ·simp only [h0V]at he;subst he;obtain⟨w',M',x,r,rfl,hr,h2,g1,g2⟩:=hlit h hI;rw [hr];have hF':=hF.step g2;refine hK _ _ M' pb ⟨?_,g1,hG.mono g2.ext,g2.mono hB,hput _ _⟩;exact hF'.put hd (fun tv e=>by simp at e;subst e;exact h2) (fun s off e=>by simp at e)
   |none=>
    simp only [hp]at he
    cases hl:gD E o (bC E F.tm) F.lv with
    |some v=>
     simp only [hl,h0V]at he;subst he;obtain⟨t,ad,s,off,hop,hx⟩:=a7O hl;simp only [gD,hop,hx]at hl;split at hl
     case h_2=>simp at hl
     rename_i cs hlv;obtain⟨y,h1,h2⟩:=h0W.1 hl;subst h2;obtain⟨_,_,_,rc,el,fz,h4,h5,h6⟩:=hF.loc s cs hlv;have hrho:a.eval ad= .pointer (some ⟨pb s,off,none⟩):=hev _ _ hx;obtain⟨r,h7,h8⟩:=wD (P:=E.P) (w:=w) (b:=pb s) (base:=0) h6 (fun i hi=>by simp [World.cell?,h4,show i<rc.size by simpa using hi]) h1;have hr:(execOp a.eval o).run E.P w= .ok (.value r) w:=by
      simp only [execOp,hop,hrho,Instr.loadAt,Instr.sureAddr];exact cD _ _ (by simpa using h7)
     rw [hr];refine hK _ _ M pb ⟨?_,hI,hG,Pres.refl _ _ _ _,hput _ _⟩;exact hF.put hd (fun tv e=>by simp at e;subst e;exact h8) (fun s off e=>by simp at e)
    |none=>
     simp only [hl]at he
     cases hs:gZ E o (bC E F.tm) F.lv with
     |some q=>
      obtain⟨s0,cs'⟩:=q;simp only [hs,h0V]at he;subst he;obtain⟨t,ad,x,s,off,hop,hx⟩:=uT hs;simp only [gZ,hop,hx]at hs;split at hs
      case h_2=>simp at hs
      rename_i s' off' v' heq hv';simp only [h0V,TV.l.injEq]at heq;obtain⟨rfl,rfl⟩:=heq;split at hs
      case h_2=>simp at hs
      rename_i cs hlv;obtain⟨y,h1,h2⟩:=h0W.1 hs;simp only [h2M]at h2;obtain⟨rfl,rfl⟩:=h2;obtain⟨l1,l2,l3,rc,el,fz,h4,h5,h6⟩:=hF.loc s cs hlv;have hrho:a.eval ad= .pointer (some ⟨pb s,off,none⟩):=hev _ _ hx;have h6':eB M cs (rc.toList.take cs.length):=by rw [h1H (by have:=h6.len;simp at this⊢;omega)];exact h6
      obtain⟨rc',s1,s2,s3,s4,s5,s6⟩:=b3U (P:=E.P) h6' h4 h5 (bK hev hv') h1;have hr:(execOp a.eval o).run E.P w= .ok .skip (w.setCells (pb s) off (a.eval x).cells.toList):=by
       simp only [execOp,hop,hrho,Instr.storeAt,Instr.sureAddr];exact b0E _ _ (by simpa using s1)
      rw [hr];simp only [Oper.upon];have hoth:=fun k (hk:k≠pb s)=>fB (pb s) (a.eval x).cells.toList off w k hk
      have hrest:=fT (pb s) (a.eval x).cells.toList off w;have hsize:=fS (pb s) (a.eval x).cells.toList off w;have hfrz: ∀c j,(w.setCells (pb s) off (a.eval x).cells.toList).frozen? ⟨c,j,none⟩=w.frozen? ⟨c,j,none⟩:=fun c j=>World.frozen?_setCells _ _ _ _ _
      have hI':Inv M h (w.setCells (pb s) off (a.eval x).cells.toList):=hI.apart l2 l3 (fun k hk _=>hoth k hk) (by omega);have hFp:=hF.put (d:=o.dst) (v:=none) (r:=undef) hd (fun tv e=>by simp at e) (fun s off e=>by simp at e);have htm:((F.put o.dst none).lset s y).tm=(F.put o.dst none).tm:=rfl;have hlvp:(F.put o.dst none).lv=F.lv:=by cases o.dst<;>rfl
      refine hK _ _ M pb ⟨?_,hI',hG,⟨Ext.refl M,by omega,hrest.1,hrest.2.1,hrest.2.2,fun k hk hn=>⟨hoth k (by omega),hn,fun _=>rfl⟩⟩,hput _ _⟩;refine⟨hFp.size,fun t tv et=>hFp.tm t tv et,fun z cz ez=>?_,fun z z' c1 c2 e1 e2 e3=>?_,fun k z off2 e=>?_⟩
      case refine_3=>
       obtain⟨cz,hz⟩:=hFp.addr k z off2 e;rw [hlvp]at hz;simp only [FF.app,h1X,if_false,FF.lset,hlvp]
       by_cases hzs:z=s
       ·exact⟨_,if_pos hzs⟩
       ·exact⟨cz,by rw [if_neg hzs];exact hz⟩
      ·simp only [FF.app,h1X,if_false,FF.lset,hlvp]at ez
       by_cases hz:z=s
       ·subst hz;rw [if_pos rfl]at ez;simp only [h0V]at ez;subst ez;refine⟨l1,l2,l3,rc',el,fz,s2,fun i hi=>by rw [hfrz];exact h5 i (by omega),?_⟩;rw [h1H (by have:=h6.len;simp at this⊢;omega)]at s5;exact s5
       ·rw [if_neg hz]at ez;obtain⟨k1,k2,k3,rc2,el2,fz2,k4,k5,k6⟩:=hF.loc z cz ez;have hne:pb z≠pb s:=fun e=>hz (hF.one z s cz cs ez hlv e)
        exact⟨k1,k2,k3,rc2,el2,fz2,(hoth _ hne).trans k4,fun i hi=>by rw [hfrz];exact k5 i hi,k6⟩
      ·simp only [FF.app,h1X,if_false,FF.lset,hlvp]at e1 e2;have g1: ∃c,F.lv z=some c:=by
        by_cases hz:z=s
        ·exact⟨cs,hz▸hlv⟩
        ·rw [if_neg hz]at e1;exact⟨_,e1⟩
       have g2: ∃c,F.lv z'=some c:=by
        by_cases hz:z'=s
        ·exact⟨cs,hz▸hlv⟩
        ·rw [if_neg hz]at e2;exact⟨_,e2⟩
       obtain⟨d1,g1⟩:=g1;obtain⟨d2,g2⟩:=g2;exact hF.one z z' d1 d2 g1 g2 e3
     |none=>
      simp only [hs]at he
      cases hr:dP E o (bC E F.tm) h with
      |some v=>
       simp only [hr,h0V]at he;subst he;obtain⟨x,r,rfl,h1,h2⟩:=e4T (E:=E) (pb:=pb) hI hev hr;rw [h1];refine hK _ _ M pb ⟨?_,hI,hG,Pres.refl _ _ _ _,hput _ _⟩;exact hF.put hd (fun tv e=>by simp at e;subst e;exact h2) (fun s off e=>by simp at e)
      |none=>
       simp only [hr]at he
       cases hee:gV E f o (bC E F.tm) h with
       |some q=>
        obtain⟨v,h'⟩:=q;simp only [hee,h0V]at he;subst he;obtain⟨w',M',g1,g2,g3⟩:=c5G (E:=E) (pb:=pb) hI hev hee;have hF':=hF.step g2;rcases g3 with⟨x,r,rfl,h1,h2⟩| ⟨rfl,h1⟩
        ·rw [h1];refine hK _ _ M' pb ⟨?_,g1,hG.mono g2.ext,g2.mono hB,hput _ _⟩;exact hF'.put hd (fun tv e=>by simp at e;subst e;exact h2) (fun s off e=>by simp at e)
        ·rw [h1];refine hK _ _ M' pb ⟨?_,g1,hG.mono g2.ext,g2.mono hB,hput _ _⟩;exact hF'.put hd (fun tv e=>by simp at e) (fun s off e=>by simp at e)
       |none=>
        simp only [hee]at he
        cases hcl:dJ o (bC E F.tm)with
        |none=>simp [hcl]at he
        |some q=>
         obtain⟨g,xs⟩:=q;simp only [hcl]at he;split at he
         case h_2=>simp at he
         rename_i v h' hcall;simp only [h0V]at he;subst he;unfold dJ at hcl;split at hcl
         case h_2=>simp at hcl
         rename_i x args at' hop;split at hcl
         case h_2=>simp at hcl
         rename_i g' p q' xs' hx hxs;simp only [h0V,h2M]at hcl;obtain⟨rfl,rfl⟩:=hcl;have hfv:VR M (.func (.func g') p q') (a.eval x):=hev _ _ hx;obtain⟨rp,rq,hrf,vp,vq⟩:=e4J hfv;have hargs:=mG hev hxs;obtain⟨⟨fn,hfn,hbody,hname⟩,hcalls⟩:=hcf g' _ _ _ _ hcall;have hc:=hcalls M w (rp++args.toList.map a.eval++rq) hI hG ((vp.append hargs).append vq);have hrun:(execOp a.eval o).run E.P w=(callFunc g' (rp++args.toList.map a.eval++rq).toArray).run E.P w:=by
          simp only [execOp,hop,resolve,hrf,Deferred.ofValue,h1K,h1R,h1F,invoke]
          congr 2
          apply h4V;simp
         have henter:(callFunc g' (rp++args.toList.map a.eval++rq).toArray).run E.P w= .ok (.enter g' (rp++args.toList.map a.eval++rq).toArray) w:=by
          simp only [callFunc,h1K,run_program,h1F,hfn,hname,hbody,h1X,if_false,h1R]
         rw [hrun,henter];simp only [Oper.upon];refine Calls.mono hc (fun e w' hpost=>?_);obtain⟨r,M',rfl,h1,h2,h3⟩:=hpost;have hF':=hF.step h3;refine hK _ _ M' pb ⟨?_,h2,hG.mono h3.ext,h3.mono hB,hput _ _⟩;exact hF'.put hd (fun tv e=>by simp at e;subst e;exact h1) (fun s off e=>by simp at e)
theorem c5K{f:FuncId}{cf:FuncId->List IV->Heap->Option (IV×Heap)}{ops:List Oper}{draw:Bool}{rs:Option Nat}{o:Oper}{e:Ef}(hcf:b4D E cf)(hG:GOK E M)(hI:Inv M h w)(hF:FR M h w B n F a pb)(hB:B<=w.heap.size)
  (hd: ∀t,o.dst=some t->t<n) (he:dE E f cf ops draw rs o F.tm F.lv h=some e) (Q:Exit->Act->World->Prop) (K:Act->World->Prop)
  (hK: ∀a' w' M' pb',Nxt E B n M h w a (F.app o.dst e) e.h a' w' M' pb'->K a' w'):
  if Region.wanted o (yielded ops.toArray a.tmps)then o.wp E.P a w K Q\/ (o.asks E.P a w/\LetsOut Q)else K (a.put o.dst undef) w:=by
 cases rs with
 |none=>exact f1Q hcf hG hI hF hB hd he Q K hK
 |some k=>
  have hev:=c5J hG hF;have hput: ∀(d:Option Tmp)(r:Value),(a.put d r).defers=a.defers:=fun d r=>by cases d<;>rfl
  unfold dE at he
  cases hw:dD ops F.tm o with
  |none=>simp [hw]at he
  |some b=>
   rw [a7Q hF hw];simp only [hw]at he
   cases b with
   |false=>
    simp only [h0V]at he;subst he;simp only [h1X,if_false];refine hK _ _ M pb ⟨?_,hI,hG,Pres.refl _ _ _ _,hput _ _⟩;exact hF.put hd (fun tv e=>by simp at e;subst e;exact rfl) (fun s off e=>by simp at e)
   |true=>
    simp only at he;simp only [if_true];refine .inl ?_;unfold Oper.wp
    cases ha:aSh E f o (bC E F.tm) k with
    |none=>simp [ha]at he
    |some q=>
     obtain⟨v,x⟩:=q;simp only [ha]at he;have hend: ∃c h',e=⟨c,v,none,false,h'⟩/\b9Y E M h w o a.eval v h':=by
      cases x with
      |none=>
       simp only [h0V]at he;exact⟨_,_,he.symm,e4Y (pb:=pb) hI hev ha⟩
      |some x=>
       simp only at he;split at he
       case h_2=>cases he
       rename_i hf;simp only [h0V]at he;exact⟨_,_,he.symm,f1P (pb:=pb) hI hev hf ha⟩
     obtain⟨c,h',rfl,hend⟩:=hend;obtain⟨w',M',g1,g2,g3⟩:=hend;have hF':=hF.step g2;rcases g3 with⟨x,r,rfl,h1,h2⟩| ⟨rfl,h1⟩
     ·rw [h1];refine hK _ _ M' pb ⟨?_,g1,hG.mono g2.ext,g2.mono hB,hput _ _⟩;exact hF'.put hd (fun tv e=>by simp at e;subst e;exact h2) (fun s off e=>by simp at e)
     ·rw [h1];refine hK _ _ M' pb ⟨?_,g1,hG.mono g2.ext,g2.mono hB,hput _ _⟩;exact hF'.put hd (fun tv e=>by simp at e) (fun s off e=>by simp at e)
end
theorem iQ(m b:Nat):jE m b=true ↔ ∀k,m.testBit k=true->b.testBit k=true:=by
 unfold jE
 rw [beq_iff_eq]
 constructor
 ·intro h k hk;rw [<-h,Nat.testBit_and]at hk;simp at hk;exact hk.2
 ·intro h;apply Nat.eq_of_testBit_eq;intro k;rw [Nat.testBit_and]
  cases hm:m.testBit k with
  |false=>simp
  |true=>simp [h k hm]
theorem kQ(i k:Nat):(bit i).testBit k=decide (i=k):=by
 unfold bit
 rw [Nat.testBit_two_pow]
theorem d0E(m:Met){c c':Cls}(i:Nat)(h:jA c c'=true):((m.add c i).chk c').testBit i=true:=by
 cases c<;>cases c'<;>first| (simp [jA]at h;done)|simp [Met.add,Met.chk,kQ]
section
variable {E:Env} {f:FuncId} {cf:FuncId->List IV->Heap->Option (IV×Heap)} {ops:List Oper} {bef:Nat->Nat}
def MLe(m m':Met):Prop:=(∀k,m'.e.testBit k=true->m.e.testBit k=true)/\(∀k,m'.r.testBit k=true->m.r.testBit k=true)/\(∀k,m'.s.testBit k=true->m.s.testBit k=true)/\(∀k,m'.l.testBit k=true->m.l.testBit k=true)/\(∀k,m'.a.testBit k=true->m.a.testBit k=true)
def qX(pd pd':Pd):Prop:= ∀p'∈pd',∃p∈pd,p.1=p'.1/\∀h,p.2 h=true->p'.2 h=true
theorem MLe.of_add(m:Met)(c:Cls)(i:Nat):MLe (m.add c i) m:=by
 cases c<;>refine⟨fun k hk=>?_,fun k hk=>?_,fun k hk=>?_,fun k hk=>?_,fun k hk=>?_⟩<;>simp [Met.add,hk]
theorem MLe.add{m m':Met}(h:MLe m m')(c:Cls)(i:Nat):MLe (m.add c i) (m'.add c i):=by
 obtain⟨h1,h2,h3,h4,h5⟩:=h;have key: ∀a b:Nat,(∀k,b.testBit k=true->a.testBit k=true)-> ∀k,(b|||bit i).testBit k=true->(a|||bit i).testBit k=true:=by
  intro a b hab k hk;rw [h6G,h2Z]at hk⊢;rcases hk with hk|hk
  ·exact .inl (hab k hk)
  ·exact .inr hk
 cases c
 ·exact⟨h1,h2,h3,h4,h5⟩
 ·exact⟨h1,h2,h3,key _ _ h4,h5⟩
 ·exact⟨h1,h2,key _ _ h3,h4,h5⟩
 ·exact⟨h1,key _ _ h2,h3,h4,h5⟩
 ·exact⟨key _ _ h1,h2,h3,h4,h5⟩
 ·exact⟨h1,h2,h3,h4,h5⟩
 ·exact⟨h1,h2,h3,h4,key _ _ h5⟩
theorem MLe.chk{m m':Met}(h:MLe m m')(c:Cls){b:Nat}(hw:jE (m.chk c) b=true):jE (m'.chk c) b=true:=by
 obtain⟨h1,h2,h3,h4,h5⟩:=h;rw [iQ]at hw⊢;intro k hk;apply hw
 cases c
 ·exact hk
 ·exact h3 k hk
 ·simp only [Met.chk,h6G,h2Z]at hk⊢;rcases hk with hk|hk
  ·exact .inl (h3 k hk)
  ·exact .inr (h4 k hk)
 ·exact h1 k hk
 ·simp only [Met.chk,h6G,h2Z]at hk⊢;rcases hk with(hk|hk)|hk
  ·exact .inl (.inl (h1 k hk))
  ·exact .inl (.inr (h2 k hk))
  ·exact .inr (h5 k hk)
 ·exact hk
 ·exact h1 k hk
theorem d0F{al:List Nat}{rs:Nat->Option Nat}{m m':Met}{b:Nat}{id:Option Nat}{c:Cls}(hm:MLe m m')(hw:b0B al rs m b id c=true):b0B al rs m' b id c=true:=by
 unfold b0B at hw⊢;split at hw
 ·simp only [h2L,h2Z,h2K]at hw⊢;intro j hj;rcases hw j hj with z|z|z
  ·exact .inl z
  ·refine .inr (.inl ?_)
   cases hq:m'.a.testBit j with
   |false=>rfl
   |true=>rw [hm.2.2.2.2 j hq]at z;cases z
  ·exact .inr (.inr z)
 ·rfl
theorem b4F: ∀{l:List Nat}{k j n:Nat},b9R k l j=some n->j∈l
 | [],_,_,_,h=>by cases h
 |i::r,k,j,n,h=>by
  unfold b9R at h;split at h
  ·rename_i e;rw [h1I e];exact h2C
  ·exact h2N _ (b4F h)
theorem d0G{m m':Met}{pd pd':Pd}{b:Nat}{e e':Ef}(hm:MLe m m')(hp:qX pd pd')(hc:e'.c=e.c)(hh:e.c= .e->e'.h=e.h)(hw:b9Q m pd b e=true):b9Q m' pd' b e'=true:=by
 unfold b9Q at hw⊢
 cases hec:e.c with
 |e=>
  rw [hec]at hw hc;rw [hc,hh hec];simp only [h0Y,h2L,h2Z]at hw⊢;refine⟨(iQ _ _).2 fun k hk=>(iQ _ _).1 hw.1 k ?_,fun p' hp'=>?_⟩
  ·rw [h6G,h2Z]at hk⊢;exact hk.imp (hm.1 k) (hm.2.2.2.2 k)
  obtain⟨p,q1,q2,q3⟩:=hp p' hp';rcases hw.2 p q1 with z|z
  ·exact .inl (by rw [<-q2];exact z)
  ·exact .inr (q3 _ z)
 |_=>rw [hec]at hw;cases hw
theorem wN{al:List Nat}{rs:Nat->Option Nat}{id:Option Nat}{m m':Met}{pd pd':Pd}{b:Nat}{e e':Ef}(hm:MLe m m')(hp:qX pd pd')(hc:e'.c=e.c)(hh:e.c= .e->e'.h=e.h)(hw:okB al rs m pd b id e=true):
  okB al rs m' pd' b id e'=true:=by
 unfold okB at hw⊢;rw [h0Y,h2Z]at hw⊢;refine⟨?_,by rw [hc];exact d0F hm hw.2⟩;rcases hw.1 with z|z
 ·exact .inl (by rw [hc];exact hm.chk _ z)
 ·exact .inr (d0G hm hp hc hh z)
theorem qX.refl(pd:Pd):qX pd pd:=fun p hp=>⟨p,hp,rfl,fun _ h=>h⟩
theorem qX.of_add(pd:Pd)(o:Oper)(ev:Operand->Option TV)(e:Ef)(i:Nat):qX (mK E o ev e i pd) pd:=by
 intro p hp;refine⟨p,?_,rfl,fun _ h=>h⟩;unfold mK
 split
 ·exact h2N _ hp
 ·exact hp
theorem qX.add{pd pd':Pd}(h:qX pd pd')(o:Oper)(ev:Operand->Option TV)(e:Ef)(i:Nat):qX (mK E o ev e i pd) (mK E o ev e i pd'):=by
 unfold mK
 split
 ·intro p' hp';rcases h2O.1 hp' with rfl|hp'
  ·exact⟨_,h2C,rfl,fun _ z=>z⟩
  ·obtain⟨p,q1,q2⟩:=h p' hp';exact⟨p,h2N _ q1,q2⟩
 ·exact h
theorem tF{al:List Nat}{rs:Nat->Option Nat}{draw:Bool} : ∀{l:List (Oper×Nat)}{m m':Met}{pd pd':Pd}{F F':FF}{h h':Heap},b4B E f cf ops bef al rs draw l m pd F h F' h'->MLe m m'->qX pd pd'->b4B E f cf ops bef al rs draw l m' pd' F h F' h'
 | [],_,_,_,_,_,_,_,_,hr,_,_=>hr
 | (o,i)::l,m,m',pd,pd',F,F',h,h',hr,hm,hp=>by
  obtain⟨e,r1,r2,r3⟩:=hr;exact⟨e,r1,fun hd=>wN hm hp rfl (fun _=>rfl) (r2 hd),tF r3 (hm.add _ _) (hp.add _ _ _ _)⟩
theorem MLe.refl(m:Met):MLe m m:=⟨fun _ h=>h,fun _ h=>h,fun _ h=>h,fun _ h=>h,fun _ h=>h⟩
theorem d3O(hcfi:qS E cf){al:List Nat}{rs:Nat->Option Nat}(hrs: ∀j n,rs j=some n->j∈al){o:Oper}{i:Nat}{B:List (Oper×Nat)} : ∀{A:List (Oper×Nat)}{m:Met}{pd:Pd}{F F':FF}{h h':Heap},rO F->(∀p∈A,(bef i).testBit p.2=false/\Oper.apart ops.toArray p.1 o=true)->
  b4B E f cf ops bef al rs true (A++(o,i)::B) m pd F h F' h'->
  ∃e,dE E f cf ops true (rs i) o F.tm F.lv h=some e/\okB al rs m pd (bef i) (jO o (bC E F.tm)) e=true/\b4B E f cf ops bef al rs true (A++B) m pd (F.app o.dst e) e.h F' h'
 | [],m,pd,F,F',h,h',_,_,hr=>by
  obtain⟨e,r1,r2,r3⟩:=hr;exact⟨e,r1,r2 rfl,tF r3 (MLe.of_add _ _ _) (qX.of_add _ _ _ _ _)⟩
 | (oa,ia)::A,m,pd,F,F',h,h',hAd,hA,hr=>by
  obtain⟨h1,h2⟩:=hA (oa,ia) (by simp);obtain⟨ea,r1,r2,r3⟩:=hr;obtain⟨ei,s1,s2,s3⟩:=d3O hcfi hrs (hAd.appA hcfi r1) (fun p hp=>hA p (by simp [hp])) r3;have hr2:=r2 rfl;obtain⟨ab,ap,al_,as_,ar,ae,ax,aa⟩:=eO hcfi r1;obtain⟨ib,ip,il,is_,ir,ie,ix,ia_⟩:=eO hcfi s1;obtain⟨t1,t2,t3⟩:=Oper.apart_spec h2;have hro:jO o (bC E (F.app oa.dst ea).tm)=jO o (bC E F.tm):=yT (jX (E:=E) (ops:=ops) fun t ht=>by rw [fJ ab,if_neg (fun e=>t1 t e ht)]);rw [hro]at s2
  cases hcl:jA ea.c ei.c with
  |false=>
   have hra:ea.c= .a->ei.c= .r-> ∀n id,rs ia=some n->jO o (bC E F.tm)=some id->n≠id:=by
    intro c1 c2 n id hn hid;have hs:=s2;unfold okB b0B at hs;rw [c2,h0Y]at hs;have hs2:=hs.2;simp only [h2L,h2Z,h2K]at hs2;obtain⟨_,n',x',w1,_⟩:=aa c1;rw [w1]at hn;simp only [h0V]at hn;subst hn;rcases hs2 ia (hrs _ _ w1)with z|z|z
    ·rw [h1]at z;cases z
    ·rw [c1]at z;simp [Met.add,kQ]at z
    ·rw [w1,hid]at z;simp only [h2K]at z;rintro rfl;rw [h8Z]at z;cases z
   obtain⟨ei',ea',q1,q2,q3,q4,q5,q6,q7⟩:=g5D hcfi hAd h2 r1 s1 hcl hra;obtain⟨ib',_,_,_,_,_,_,_⟩:=eO hcfi q1;obtain⟨ab',ap',al',as',ar',ae',ax',aa'⟩:=eO hcfi q2;have hra':jO oa (bC E (F.app o.dst ei').tm)=jO oa (bC E F.tm):=yT (jX (E:=E) (ops:=ops) fun t ht=>by rw [fJ ib',if_neg (fun e=>t3 t e ht)]);have hih:ei.c= .e->ei'.h=ei.h:=by
    intro hc;rw [<-q6];rw [hc]at hcl
    cases hca:ea'.c with
    |p=>exact(ap' hca).2.1.symm
    |l=>exact(al' hca).2.1.symm
    |s=>exact(as' hca).1.symm
    |b=>exact(ax' hca).1.symm
    |r=>rw [q4]at hca;rw [hca]at hcl;cases hcl
    |e=>rw [q4]at hca;rw [hca]at hcl;cases hcl
    |a=>rw [q4]at hca;rw [hca]at hcl;cases hcl
   have hah:ea.c= .e->ea'.h=ea.h:=by
    intro hc;rw [q6];rw [hc]at hcl
    cases hci:ei.c with
    |p=>exact(ip hci).2.1
    |l=>exact(il hci).2.1
    |s=>exact(is_ hci).1
    |b=>exact(ix hci).1
    |r=>rw [hci]at hcl;cases hcl
    |e=>rw [hci]at hcl;cases hcl
    |a=>rw [hci]at hcl;cases hcl
   refine⟨ei',q1,wN (MLe.of_add _ _ _) (qX.of_add _ _ _ _ _) q3 hih s2,ea',q2,fun _=>by rw [hra'];exact wN (MLe.refl _) (qX.refl _) q4 hah hr2,?_⟩;rw [q4,q5,q6];refine tF s3 (MLe.refl _) ?_;have hev: ∀h2,dP E oa (bC E (F.app o.dst ei').tm) h2=dP E oa (bC E F.tm) h2:=fun h2=>yS (jX (E:=E) (ops:=ops) fun t ht=>by rw [fJ ib',if_neg (fun e=>t3 t e ht)])
   unfold mK
   rw [q4]
   cases hca:ea.c with
   |r=>
    simp only [q7,hev];exact qX.refl _
   |_=>exact qX.refl _
  |true=>
   have s2':=s2;unfold okB at s2';rw [h0Y,h2Z]at s2';rcases s2'.1 with s2'|s2'
   ·have:=(iQ _ _).1 s2' ia (d0E m ia hcl);rw [h1]at this;cases this
   ·have hic:ei.c= .e:=by
     unfold b9Q at s2'
     cases hc:ei.c with
     |e=>rfl
     |_=>rw [hc]at s2';cases s2'
    have hs:=s2';unfold b9Q at hs;rw [hic]at hs hcl;simp only [h0Y]at hs;have hac:ea.c= .r:=by
     cases hc:ea.c with
     |r=>rfl
     |e=>
      exfalso;have:=(iQ _ _).1 hs.1 ia (by rw [hc];simp [Met.add,kQ]);rw [h1]at this;cases this
     |a=>
      exfalso;have:=(iQ _ _).1 hs.1 ia (by rw [hc];simp [Met.add,kQ]);rw [h1]at this;cases this
     |_=>rw [hc]at hcl;cases hcl
    have hall:=hs.2;unfold mK at hall;rw [hac]at hall;simp only [h5T,h0Y,h1,h4S]at hall;have hP:=hall.1;have hsame:dE E f cf ops true (rs ia) oa F.tm F.lv ei.h=some {ea with h:=ei.h } :=by
     split at hP
     ·rename_i v2 v hv2 hv;have e1:=e4Z hP;subst e1;exact d0D r1 hac hv2 hv
     ·cases hP
    obtain⟨g1,g2,g3⟩:=g0F hcfi h2 r1 s1 hac hic hsame;have hra':jO oa (bC E (F.app o.dst ei).tm)=jO oa (bC E F.tm):=yT (jX (E:=E) (ops:=ops) fun t ht=>by rw [fJ ib,if_neg (fun e=>t3 t e ht)]);refine⟨ei,g1,wN (MLe.of_add _ _ _) (qX.of_add _ _ _ _ _) rfl (fun _=>rfl) s2,{ea with h:=ei.h },g2,fun _=>?_,?_⟩
    ·rw [hra'];exact wN (e:=ea) (e':= {ea with h:=ei.h }) (MLe.refl _) (qX.refl _) rfl (fun hc=>by rw [hac]at hc;cases hc) hr2
    ·rw [g3];refine tF s3 (MLe.refl _) ?_;have hev: ∀h2,dP E oa (bC E (F.app o.dst ei).tm) h2=dP E oa (bC E F.tm) h2:=fun h2=>yS (jX (E:=E) (ops:=ops) fun t ht=>by rw [fJ ib,if_neg (fun e=>t3 t e ht)])
     unfold mK
     simp only [hac,hev];exact qX.refl _
structure RegOk(ops:List Oper)(bef:Nat->Nat):Prop where
 back: ∀i o,ops[i]?=some o-> ∀e∈o.after.toList,Region.binds .any e=true->e.on<i
 apart: ∀i o a oa,ops[i]?=some o->a<i->ops[a]?=some oa->(bef i).testBit a=false->Oper.apart ops.toArray oa o=true
 clos: ∀i o a,ops[i]?=some o->(bef i).testBit a=true-> ∃e∈o.after.toList,Region.binds .any e=true/\(e.on=a\/ (bef e.on).testBit a=true)
theorem c0B(hR:RegOk ops bef){P:Nat->Prop}(hclosed: ∀j o,P j->ops[j]?=some o-> ∀e∈o.after.toList,Region.binds .any e=true->P e.on)(hin: ∀j,P j-> ∃o,ops[j]?=some o):
  ∀i o,ops[i]?=some o->(∀e∈o.after.toList,Region.binds .any e=true->P e.on)-> ∀a,(bef i).testBit a=true->P a:=by
 intro i
 induction i using Nat.strongRecOn with
 |_ i ih=>
  intro o ho he a ha;obtain⟨e,h1,h2,h3⟩:=hR.clos i o a ho ha;have hp:=he e h1 h2;rcases h3 with rfl|h3
  ·exact hp
  ·obtain⟨o',ho'⟩:=hin _ hp;exact ih e.on (hR.back i o ho e h1 h2) o' ho' (fun e' h1' h2'=>hclosed _ _ hp ho' e' h1' h2') a h3
variable {B n:Nat}
structure Todo(ops:List Oper)(n:Nat)(L:List (Oper×Nat)):Prop where
 at_: ∀p∈L,ops[p.2]?=some p.1
 dst: ∀p∈L,∀t,p.1.dst=some t->t<n
theorem Nxt.trans'{M M1 M2:Meta}{h h1 h2:Heap}{w w1 w2:World}{a a1 a2:Act}{F1 F2:FF}{pb1 pb2:Nat->Nat}(x:Nxt E B n M h w a F1 h1 a1 w1 M1 pb1)(y:Nxt E B n M1 h1 w1 a1 F2 h2 a2 w2 M2 pb2):
 Nxt E B n M h w a F2 h2 a2 w2 M2 pb2:=⟨y.fr,y.inv,y.glob,x.pres.trans y.pres,y.defers.trans x.defers⟩
theorem b4G{al:List Nat}{rs:Nat->Option Nat}{draw:Bool}(hcf:b4D E cf)(Q:Exit->Act->World->Prop): ∀(L:List (Oper×Nat))(m:Met)(pd:Pd)(F:FF)(h:Heap)(F':FF)(h':Heap),b4B E f cf ops bef al rs draw L m pd F h F' h'->Todo ops n L->
  ∀(M:Meta)(w:World)(a:Act)(pb:Nat->Nat),GOK E M->Inv M h w->FR M h w B n F a pb->B<=w.heap.size->
  (∀a' w' M' pb',Nxt E B n M h w a F' h' a' w' M' pb'->Q .normal a' w')->wpOps E.P ops.toArray Q (L.map (·.2)) a w
 | [],m,pd,F,h,F',h',hr,hT,M,w,a,pb,hG,hI,hF,hB,hQ=>by
  obtain⟨rfl,rfl⟩:=hr;exact hQ a w M pb ⟨hF,hI,hG,Pres.refl _ _ _ _,rfl⟩
 | (o,i)::L,m,pd,F,h,F',h',hr,hT,M,w,a,pb,hG,hI,hF,hB,hQ=>by
  obtain⟨e,r1,r2,r3⟩:=hr;have ho:ops.toArray[i]?=some o:=by simpa using hT.at_ (o,i) (by simp)
  simp only [h2H,wpOps,ho];refine c5K hcf hG hI hF hB (hT.dst (o,i) (by simp)) r1 Q _ (fun a1 w1 M1 pb1 hx=>?_);exact b4G hcf Q L _ _ _ _ _ _ r3 ⟨fun p hp=>hT.at_ p (by simp [hp]),fun p hp=>hT.dst p (by simp [hp])⟩ M1 w1 a1 pb1 hx.glob hx.inv hx.fr (h2F hB hx.pres.size)
   (fun a2 w2 M2 pb2 hy=>hQ a2 w2 M2 pb2 (hx.trans' hy))
structure Lst(ops:List Oper)(L:List (Oper×Nat))(listed:Array Bool):Prop where
 size:listed.size=ops.length
 iff_: ∀i,i<ops.length->(listed.getD i true=false ↔ ∃p∈L,p.2=i)
 clos: ∀j o,ops[j]?=some o->listed.getD j true=true-> ∀e∈o.after.toList,Region.binds .any e=true->listed.getD e.on false=true
theorem rQ{p q:Oper×Nat}(h:qR ops p q=true):p.2<q.2\/ (p.2≠q.2/\(∀e∈p.1.after.toList,e.on≠q.2)/\Oper.apart ops.toArray p.1 q.1=true):=by
 unfold qR at h;simp only [h2Z,h0Y,h2L,h2K]at h;rcases h with h| ⟨⟨h1,h2⟩,h3⟩
 ·exact .inl (h2T h)
 ·exact .inr ⟨h5F h1,fun e he=>h5F (h2 e he),h3⟩
theorem b4H{p q:Oper×Nat}(h:qR ops p q=true):p.2≠q.2:=by
 rcases rQ h with z|z
 ·omega
 ·exact z.1
theorem a7S: ∀{L:List (Oper×Nat)},a2E ops L=true->L.Pairwise (fun p q=>qR ops p q=true)
 | [],_=> .nil
 |p::r,h=>by
  simp only [a2E,h0Y,h2L]at h;exact .cons h.1 (a7S h.2)
theorem wO(l:Array Bool)(i:Nat)(h:i<l.size)(a b:Bool):l.getD i a=l.getD i b:=by simp [h3G,h]
theorem e5C{al:List Nat}{rs:Nat->Option Nat}(hrs: ∀j n,rs j=some n->j∈al)(hcf:b4D E cf)(hcfi:qS E cf)(hR:RegOk ops bef)(Q:Exit->Act->World->Prop): ∀(fuel:Nat)(L:List (Oper×Nat))(listed:Array Bool)(m:Met)(pd:Pd)(F:FF)(h:Heap)(F':FF)(h':Heap),L.length<=fuel->b4B E f cf ops bef al rs true L m pd F h F' h'->Todo ops n L->L.Pairwise (fun p q=>qR ops p q=true)->Lst ops L listed->
  ∀(M:Meta)(w:World)(a:Act)(pb:Nat->Nat),GOK E M->Inv M h w->FR M h w B n F a pb->B<=w.heap.size->
  (∀a' w' M' pb',Nxt E B n M h w a F' h' a' w' M' pb'->Q .normal a' w')->wpAny E.P .any ops.toArray Q fuel listed a w:=by
 have empty: ∀{L:List (Oper×Nat)}{listed:Array Bool},Todo ops n L->L.Pairwise (fun p q=>qR ops p q=true)->Lst ops L listed->Region.ready .any ops.toArray listed=[]->L=[]:=by
  intro L listed hT hrs hL hr
  cases L with
  |nil=>rfl
  |cons p L=>
   exfalso;have hp:=hT.at_ p (by simp);have hlt:p.2<ops.length:=(h2B.1 hp).1;have hfalse:=(hL.iff_ p.2 hlt).2 ⟨p,by simp,rfl⟩;have:p.2∈Region.ready .any ops.toArray listed:=by
    simp only [Region.ready,List.mem_filter,h6H,h4B];refine⟨hlt,?_⟩;simp only [hfalse,h8L,h2G,h4I,hp,h4C,h5P];rw [h6Q];intro e he
    cases hb:Region.binds .any e with
    |false=>simp
    |true=>
     have hon:=hR.back p.2 p.1 hp e (by simpa using he) hb;have hlt':e.on<ops.length:=by omega
     simp only [h8S,h4S];rw [wO listed e.on (by rw [hL.size];exact hlt') false true]
     cases hq:listed.getD e.on true with
     |true=>rfl
     |false=>
      obtain⟨q,q1,q2⟩:=(hL.iff_ e.on hlt').1 hq;have hrise:=h7G.1 hrs;simp only [h2O]at q1;rcases q1 with rfl|q1
      ·omega
      ·rcases rQ (hrise.1 q q1)with z| ⟨_,z,_⟩
       ·omega
       ·exact absurd q2.symm (z e (by simpa using he))
   rw [hr]at this;simp at this
 intro fuel
 induction fuel with
 |zero=>
  intro L listed m pd F h F' h' hlen hr hT hris hL M w a pb hG hI hF hB hQ;have:L=[]:=by simpa using hlen
  subst this;obtain⟨rfl,rfl⟩:=hr;refine⟨?_,hQ a w M pb ⟨hF,hI,hG,Pres.refl _ _ _ _,rfl⟩⟩;simp only [Region.ready];rw [List.filter_eq_nil_iff];intro i hi;simp only [h6H,h4B]at hi;have: ¬listed.getD i true=false:=by
   rw [hL.iff_ i hi];simp
  simp at this;simp [this]
 |succ fuel ih=>
  intro L listed m pd F h F' h' hlen hr hT hris hL M w a pb hG hI hF hB hQ;refine⟨fun hre=>?_,fun i hi=>?_⟩
  ·have:=empty hT hris hL hre;subst this;obtain⟨rfl,rfl⟩:=hr;exact hQ a w M pb ⟨hF,hI,hG,Pres.refl _ _ _ _,rfl⟩
  ·simp only [Region.ready,List.mem_filter,h6H,h4B,h0Y,h2K,h4I]at hi;obtain⟨hlt,hfalse,hall⟩:=hi;obtain⟨p,hp,hpi⟩:=(hL.iff_ i hlt).1 hfalse;obtain⟨o,i'⟩:=p;simp only at hpi;subst hpi;obtain⟨A,B',hAB⟩:=List.append_of_mem hp;subst hAB;have ho:ops[i']?=some o:=hT.at_ _ hp;have hwait: ∀e∈o.after.toList,Region.binds .any e=true->listed.getD e.on false=true:=by
    simp only [ho,h4C,h5P]at hall;rw [h6Q]at hall;intro e he hb;have:=hall e (by simpa using he);simpa [hb]using this
   have hrise:=h8Q.1 hris;have hAlt: ∀q∈A,qR ops q (o,i')=true:=fun q hq=>hrise.2.2 q hq (o,i') (by simp)
   have hcl: ∀j oj,(j<ops.length/\listed.getD j true=true)->ops[j]?=some oj-> ∀e∈oj.after.toList,Region.binds .any e=true->(e.on<ops.length/\listed.getD e.on true=true):=by
    intro j oj hj hoj e he hb;have h1:=hR.back j oj hoj e he hb;have h2:=hL.clos j oj hoj hj.2 e he hb;refine⟨by omega,?_⟩
    rwa [wO listed e.on (by rw [hL.size];omega) true false]
   have hbef:=c0B hR (P:=fun j=>j<ops.length/\listed.getD j true=true) hcl (fun j hj=>⟨_,h0U hj.1⟩) i' o ho
    (fun e he hb=>by
     have h1:=hR.back i' o ho e he hb;refine⟨by omega,?_⟩;rw [wO listed e.on (by rw [hL.size];omega) true false];exact hwait e he hb)
   have hr':=d3O hcfi hrs hF.addr (fun q hq=>by
    have hq':q∈A++(o,i')::B':=by simp [hq]
    have hqo:=hT.at_ q hq';have hqlt:q.2<ops.length:=(h2B.1 hqo).1;have hqf:=(hL.iff_ q.2 hqlt).2 ⟨q,hq',rfl⟩;have hnb:(bef i').testBit q.2=false:=by
     cases hb:(bef i').testBit q.2 with
     |false=>rfl
     |true=>
      have:=(hbef q.2 hb).2;rw [hqf]at this;simp at this
    refine⟨hnb,?_⟩;rcases rQ (hAlt q hq)with z| ⟨_,_,z⟩
    ·exact hR.apart i' o q.2 q.1 ho z hqo hnb
    ·exact z) hr
   obtain⟨e,r1,r2,r3⟩:=hr';have hT':Todo ops n (A++B'):=by
    refine⟨fun q hq=>hT.at_ q ?_,fun q hq=>hT.dst q ?_⟩
    ·simp at hq⊢;rcases hq with hq|hq<;>simp [hq]
    ·simp at hq⊢;rcases hq with hq|hq<;>simp [hq]
   have hrs':(A++B').Pairwise (fun p q=>qR ops p q=true):=h8Q.2 ⟨hrise.1,(h7G.1 hrise.2.1).2,fun x hx y hy=>hrise.2.2 x hx y (by simp [hy])⟩;have hAne: ∀q∈A,q.2≠i':=fun q hq=>b4H (hAlt q hq)
   have hBne: ∀q∈B',q.2≠i':=fun q hq=>(b4H ((h7G.1 hrise.2.1).1 q hq)).symm
   have hset: ∀j,j<ops.length->(listed.setIfInBounds i' true).getD j true=if j=i' then true else listed.getD j true:=by
    intro j hj;simp only [h3G,h3F]
    by_cases hji:j=i'
    ·subst hji;simp [hL.size,hj]
    ·rw [if_neg (fun e=>hji e.symm),if_neg hji]
   have hL':Lst ops (A++B') (listed.setIfInBounds i' true):=by
    refine⟨by simpa using hL.size,fun j hj=>?_,fun j oj hoj hj e he hb=>?_⟩
    ·rw [hset j hj]
     by_cases hji:j=i'
     ·subst hji;simp only [if_true]
      constructor
      ·intro h;simp at h
      ·rintro⟨q,hq,e⟩;simp only [h2S]at hq;rcases hq with hq|hq
       ·exact absurd e (hAne q hq)
       ·exact absurd e (hBne q hq)
     ·rw [if_neg hji,hL.iff_ j hj]
      constructor
      ·rintro⟨q,hq,e⟩;simp only [h2S,h2O]at hq;rcases hq with hq|rfl|hq
       ·exact⟨q,by simp [hq],e⟩
       ·exact absurd e.symm hji
       ·exact⟨q,by simp [hq],e⟩
      ·rintro⟨q,hq,e⟩;simp only [h2S]at hq;rcases hq with hq|hq
       ·exact⟨q,by simp [hq],e⟩
       ·exact⟨q,by simp [hq],e⟩
    ·have hjl:j<ops.length:=(h2B.1 hoj).1;have hon:=hR.back j oj hoj e he hb;have hsz:(listed.setIfInBounds i' true).size=ops.length:=by simpa using hL.size
     rw [wO _ e.on (by omega) false true,hset _ (by omega)]
     by_cases hei:e.on=i'
     ·simp [hei]
     ·rw [if_neg hei];rw [wO listed e.on (by rw [hL.size];omega) true false];rw [hset j hjl]at hj
      by_cases hji:j=i'
      ·subst hji;rw [ho]at hoj;simp at hoj;subst hoj;exact hwait e he hb
      ·rw [if_neg hji]at hj;exact hL.clos j oj hoj hj e he hb
   have ho':ops.toArray[i']?=some o:=by simpa using ho
   simp only [wpOp,ho'];refine c5K hcf hG hI hF hB (hT.dst (o,i') (by simp)) r1 Q _ (fun a1 w1 M1 pb1 hx=>?_);exact ih (A++B') _ _ _ _ _ _ _ (by simp at hlen⊢;omega) r3 hT' hrs' hL' M1 w1 a1 pb1 hx.glob hx.inv hx.fr (h2F hB hx.pres.size) (fun a2 w2 M2 pb2 hy=>hQ a2 w2 M2 pb2 (hx.trans' hy))
end
section
variable {M:Meta} {h:Heap} {w:World}
def c5L(g:Heap->IV->IV×Heap):Prop:=
 ∀(M:Meta)(h:Heap)(w:World)(v:IV)(r:Value),Inv M h w->VR M v r-> ∃M',Inv M' (g h v).2 w/\Pres w.heap.size M h w M' (g h v).2 w/\VR M' (g h v).1 r/\isCell (g h v).1=isCell v
theorem e5D{id off len sz:Nat}{cs:List IV}{r:Value}(a:Inv M h w)(hg:h.get id= .cells cs)(h0:0<sz)(hle:off+len*sz<=cs.length)(hv:VR M (.hslice id off len sz) r):
  ∃M',Inv M' (h.set id .dead) w/\Pres w.heap.size M h w M' (h.set id .dead) w/\VR M' (.vslice none 0 len sz ((cs.drop off).take (len*sz))) r:=by
 obtain⟨b,rc,l1,l2,l3,l4,l5⟩:=a.cells id cs hg
 cases hv with
 | @hslice _ _ _ _ cap b' ad hl had hlen=>
  rw [hl]at l1;simp at l1;subst l1;have hidlt:id<h.next:=by
   rcases h2D id h.next with q|q
   ·exact q
   ·rw [a.fresh id q]at hg;simp at hg
  let M':Meta:= {M with im:=fun c o=>if c=b' then rc[o]? else M.im c o }
  have hE:Ext M M':=⟨h1D _,fun _ _ x=>x,fun c o v x=>by
   simp only [M'];split
   ·rename_i hc;subst hc;rw [l5]at x;simp at x
   ·exact x,fun _ _ x=>x,fun _ _=>h1D _,fun _ _ _=>rfl⟩
  have hdead:(h.set id .dead).get id= .dead:=by rw [Heap.get_set,if_pos rfl]
  obtain⟨el,fz,hbk⟩:=l2.at_;have hmain:Inv M' (h.set id .dead) w/\Pres w.heap.size M h w M' (h.set id .dead) w:=by
   refine UpdS.done (S:=fun j=>j=id) (tb:=b') ?_ a;refine {
    get:=fun j hj=>by rw [Heap.get_set,if_neg hj],loc:=fun _ _=>rfl,tip:=fun _ _=>rfl,cur:=fun _ _=>rfl,heap:=fun _ _ _=>rfl,im:=fun c o hc=>by simp [M',hc],bsz:=fun _ _=>rfl,size:=h1D _,
    os:=rfl,tape:=rfl,output:=rfl,own:= .inl ⟨id,rfl,by simp [Wb,hg,hl]⟩,wb:=?_,one:=fun i i' e e' _ _=>e.trans e'.symm,ext:=hE,nid:=a.nid,fresh:=?_,freshl:=a.freshl,imtb:=?_,bsztb:=fun n x=>a.bsz b' n x,cells:=?_,tips:=?_,maps:=?_,resv:=fun i hi e=>by subst hi;simp [Heap.get_set]at e }
   ·intro i c e ew;subst e;simp [Wb,hdead]at ew
   ·intro j hj;rw [Heap.next_set]at hj;rw [Heap.get_set,if_neg (by omega)];exact a.fresh j hj
   ·intro o v x;simp only [M',if_true]at x;simp only [World.cell?,hbk,h3S,h1X,if_false];exact x
   ·intro i cs' e eg;subst e;rw [hdead]at eg;simp at eg
   ·intro i cs' e eg;subst e;rw [hdead]at eg;simp at eg
   ·intro i cs' e eg;subst e;rw [hdead]at eg;simp at eg
  have hc':=((l4.drop off).take (len*sz)).mono hE;have hlen2:((cs.drop off).take (len*sz)).length=len*sz:=by simp;omega
  refine⟨M',hmain.1,hmain.2,?_⟩;refine .vslice ad (fun i=>(((rc.toList.take cs.length).drop off).take (len*sz)).getD i undef) hlen2 hlen ?_ ?_ ?_ hc'.2 (by simp) (fun _=> .inl rfl)
  ·rcases had with had| ⟨rfl,n,hn,hnle⟩
   ·exact .inl had
   ·exact .inr ⟨rfl,n,hn,hnle⟩
  ·intro i hi;rw [hlen2]at hi;have hcap:cap≠0:=by
    intro e;have:len=0:=by omega
    subst this;simp at hi
   obtain⟨rfl,_⟩:=had.resolve_left hcap;have hlt:off+i<rc.size:=by omega
   simp only [M',if_true,h1A];rw [h4H,if_pos hi,h4N,h4H,if_pos (by omega)];simp [hlt]
  ·intro i hi;have:=hc'.1.2 i hi (by rw [<-hc'.len];exact hi);simp only [h1A];rw [h0U (by rw [<-hc'.len];exact hi)];exact this
theorem c5M:c5L rH:=by
 intro M h w v r a hv
 by_cases e:rH h v=(v,h)
 ·rw [e];exact⟨M,a,Pres.refl _ _ _ _,hv,rfl⟩
 ·cases v with
  |hslice id off len sz=>
   cases hg:h.get id with
   |cells cs=>
    by_cases hc:0<sz/\off+len*sz<=cs.length
    ·have e2:rH h (.hslice id off len sz)=(.vslice none 0 len sz ((cs.drop off).take (len*sz)),h.set id .dead):=by
      simp only [rH,hg];rw [if_pos hc]
     rw [e2];obtain⟨M',h1,h2,h3⟩:=e5D a hg hc.1 hc.2 hv;exact⟨M',h1,h2,h3,rfl⟩
    ·exact absurd (by simp only [rH,hg];rw [if_neg hc]) e
   |tip n=>exact absurd (by simp only [rH,hg]) e
   |map es=>exact absurd (by simp only [rH,hg]) e
   |dead=>exact absurd (by simp only [rH,hg]) e
   |free=>exact absurd (by simp only [rH,hg]) e
  |_=>exact absurd rfl e
theorem a1V{g:Heap->IV->IV×Heap}(hg:c5L g): ∀(vs:List IV)(M:Meta)(h:Heap)(w:World)(rs:List Value),Inv M h w->cW M vs rs->
  ∃M',Inv M' (uO g h vs).2 w/\Pres w.heap.size M h w M' (uO g h vs).2 w/\cW M' (uO g h vs).1 rs/\(uO g h vs).1.length=vs.length/\((∀(i:Nat)(hi:i<vs.length),isCell vs[i]=true)-> ∀(i:Nat)(hi:i< (uO g h vs).1.length),isCell (uO g h vs).1[i]=true)
 | [],M,h,w,rs,a,hv=>⟨M,a,Pres.refl _ _ _ _,hv,rfl,fun hh=>hh⟩
 |v::vs,M,h,w,rs,a,hv=>by
  obtain⟨r,rs',rfl,h1,h2⟩:=hv.uncons;obtain⟨M1,b1,b2,b3,b4⟩:=hg M h w v r a h1;obtain⟨M2,c1,c2,c3,c4,c5⟩:=a1V hg vs M1 (g h v).2 w rs' b1 (h2.mono b2.ext);refine⟨M2,c1,b2.trans c2,cW.cons (b3.mono c2.ext) c3,by simp [uO,c4],fun hh i hi=>?_⟩;simp only [uO]
  cases i with
  |zero=>
   have:=hh 0 (by simp);simp only [h6L]at this⊢;rw [b4];exact this
  |succ i=>
   simp only [h6M];exact c5 (fun j hj=>by have:=hh (j+1) (by simpa using hj);simpa using this) i (by simpa [uO]using hi)
theorem b0K:c5L b3O:=by
 intro M h w v r a hv
 cases v with
 |agg cs=>
  obtain⟨rc,rfl,hc⟩:=yO hv;obtain⟨M',c1,c2,c3,c4,c5⟩:=a1V c5M cs M h w rc a hc.1;exact⟨M',c1,c2,gW ⟨c3,c5 hc.2⟩,rfl⟩
 |_=>exact c5M M h w _ r a hv
theorem e5E:c5L g0E:=by
 intro M h w v r a hv
 cases v with
 |tuple vs=>
  obtain⟨rc,rfl,hc⟩:=b3Q hv;obtain⟨M',c1,c2,c3,c4,c5⟩:=a1V b0K vs M h w rc a hc;exact⟨M',c1,c2,dT c3,rfl⟩
 |_=>exact b0K M h w _ r a hv
theorem c5N{E:Env}{f:FuncId}{ts:List TypeId}{vs:List IV}{rs:List Value}(h:cW M vs rs):cW M (yN E f ts vs) rs:=by
 unfold yN
 split
 ·exact wC h
 ·exact h
theorem c0C(E:Env)(f:FuncId){v:IV}{r:Value}(a:Inv M h w)(hv:VR M v r): ∃M',Inv M' (jG E f v h).2 w/\Pres w.heap.size M h w M' (jG E f v h).2 w/\VR M' (jG E f v h).1 r:=by
 unfold jG
 split
 ·obtain⟨M',h1,h2,h3,_⟩:=e5E M h w v r a hv;exact⟨M',h1,h2,h3⟩
 ·exact⟨M,a,Pres.refl _ _ _ _,hv⟩
end
def c0D(ops:List Oper)(bef:Nat->Nat):Bool:=
 ops.zipIdx.all fun(o,i)=>
  o.after.toList.all (fun e=>!Region.binds .any e||decide (e.on<i)) &&
  (ops.zipIdx.all (fun(oa,a)=>!decide (a<i)|| (bef i).testBit a||Oper.apart ops.toArray oa o) &&
  jE (bef i) (o.after.toList.foldl (fun s e=>if Region.binds .any e then s|||bit e.on|||bef e.on else s) 0))
theorem a7T(bef:Nat->Nat)(a:Nat): ∀(l:List Edge)(s:Nat),(l.foldl (fun s e=>if Region.binds .any e then s|||bit e.on|||bef e.on else s) s).testBit a=true->
  s.testBit a=true\/ ∃e∈l,Region.binds .any e=true/\(e.on=a\/ (bef e.on).testBit a=true)
 | [],s,h=> .inl h
 |e::l,s,h=>by
  simp only [h8D]at h;rcases a7T bef a l _ h with h| ⟨e',h1,h2⟩
  ·split at h
   ·rename_i hb;simp only [h6G,h2Z,kQ,decide_eq_true_eq]at h;rcases h with(h|h)|h
    ·exact .inl h
    ·exact .inr ⟨e,by simp,hb,.inl h⟩
    ·exact .inr ⟨e,by simp,hb,.inr h⟩
   ·exact .inl h
  ·exact .inr ⟨e',by simp [h1],h2⟩
theorem wP{ops:List Oper}{i:Nat}{o:Oper}(h:ops[i]?=some o):(o,i) ∈ops.zipIdx:=by
 rw [h4M];exact h
theorem d3P{ops:List Oper}{bef:Nat->Nat}(h:c0D ops bef=true):RegOk ops bef:=by
 unfold c0D at h;rw [h2L]at h;have h': ∀i o,ops[i]?=some o->_:=fun i o ho=>h (o,i) (wP ho)
 simp only [h0Y,h2L]at h';refine⟨fun i o ho e he hb=>?_,fun i o a oa ho hlt hoa hnb=>?_,fun i o a ho hb=>?_⟩
 ·have:=(h' i o ho).1 e he;simpa [hb]using this
 ·have:=(h' i o ho).2.1 (oa,a) (wP hoa);simpa [hlt,hnb]using this
 ·have hw:=(iQ _ _).1 (h' i o ho).2.2 a hb;rcases a7T bef a _ _ hw with h0|h1
  ·simp at h0
  ·exact h1
def gG(n:Nat):Code->Bool
 | .region _ ops draw=>ops.toList.all (fun o=>match o.dst with|some t=>decide (t<n)|none=>true) && (!draw||c0D ops.toList (a2D ops))
 | .seq a b=>gG n a&&gG n b
 | .cond _ a b=>gG n a&&gG n b
 | .block _ c=>gG n c
 | .loop c=>gG n c
 | .scope c=>gG n c
 |_=>true
def c0E(fn:Func):Bool:=
 match fn.body with
 | some c => gG fn.ntmps c && !(fn.name == "runtime.NumGoroutine")
 |none=>true
def yX(P:Program):Bool:=P.funcs.toList.all c0E
def Ex.toExit:Ex->Exit
 | .normal=> .normal
 | .exit id=> .exit id
 | .ret=> .ret
section
variable {E:Env} {f:FuncId} {cf:FuncId->List IV->Heap->Option (IV×Heap)} {N B n:Nat}
theorem d3Q{ops:List Oper}(hd:ops.all (fun o=>match o.dst with|some t=>decide (t<n)|none=>true)=true):Todo ops n ops.zipIdx:=by
 refine⟨fun p hp=>?_,fun p hp t ht=>?_⟩
 ·obtain⟨o,i⟩:=p;exact(h4M).1 hp
 ·obtain⟨o,i⟩:=p;have ho:=(h4M).1 hp;rw [h2L]at hd;have:=hd o (h3C ho);simp only at ht;rw [ht]at this;simpa using this
theorem d3R(ops:List Oper):ops.zipIdx.Pairwise (fun p q=>qR ops p q=true):=by
 rw [List.pairwise_iff_getElem];intro i j hi hj hij;simp only [List.getElem_zipIdx,qR,h2Z];exact .inl (Nat.ble_eq_true_of_le (by omega))
theorem wQ{ops:List Oper}{l:List Nat}{p:Oper×Nat} :p∈a0G ops l ↔ p.2∈l/\ops[p.2]?=some p.1:=by
 unfold a0G
 simp only [h6A,h0W]
 constructor
 ·rintro⟨i,hi,o,ho,rfl⟩;exact⟨hi,ho⟩
 ·rintro⟨h1,h2⟩;exact⟨p.2,h1,p.1,h2,rfl⟩
theorem c0F(l:List Nat)(draw:Bool)(ops:List Oper):yM l draw ops=ops.zipIdx\/ (draw=true/\yM l draw ops=a0G ops l/\l.length<=ops.length/\(∀j,j<ops.length->j∈l)/\a2E ops (a0G ops l)=true):=by
 unfold yM
 split
 ·rename_i i r;split
  ·rename_i h;simp only [h0Y,h2L,h6H]at h;exact .inr ⟨rfl,rfl,h2T h.1.1,fun j hj=>by simpa using h.1.2 j hj,h.2⟩
  ·exact .inl rfl
 ·exact .inl rfl
theorem e5F(ops:List Oper):ops.zipIdx.map (·.2)=List.range ops.length:=by
 apply h3T;intro i
 by_cases h:i<ops.length
 ·simp [h,h5W]
 ·simp [h]
theorem a7U(ops:List Oper):Lst ops ops.zipIdx (Array.replicate ops.length false):=by
 refine⟨by simp,fun i hi=>?_,fun j o hj hl=>?_⟩
 ·simp only [h3G,h7V,hi,if_true,h5P,true_iff];exact⟨(ops[i],i),wP (h0U hi),rfl⟩
 ·have hlt:=(h2B.1 hj).1;simp [h3G,hlt]at hl
theorem d3S{ops:List Oper}{l:List Nat}(h: ∀j,j<ops.length->j∈l):Lst ops (a0G ops l) (Array.replicate ops.length false):=by
 have h0:=a7U ops;refine⟨h0.size,fun i hi=>?_,h0.clos⟩;rw [h0.iff_ i hi]
 constructor
 ·rintro⟨q,hq,e⟩;exact⟨q,wQ.2 ⟨by rw [e];exact h i hi,(h4M).1 hq⟩,e⟩
 ·rintro⟨q,hq,e⟩;exact⟨q,wP (wQ.1 hq).2,e⟩
theorem d0H{ops:List Oper}{l:List Nat}(h:Todo ops n ops.zipIdx):Todo ops n (a0G ops l):=
 ⟨fun _ hp=>(wQ.1 hp).2,fun p hp=>h.dst p (wP (wQ.1 hp).2)⟩
structure Sim(E:Env)(B n:Nat)(M:Meta)(h:Heap)(w:World)(fr:Fr)(a:Act)(pb:Nat->Nat):Prop where
 glob:GOK E M
 inv:Inv M h w
 fr:FR M h w B n fr.ff a pb
 le:B<=w.heap.size
theorem Nxt.sim{M M':Meta}{h h':Heap}{w w':World}{fr':Fr}{a a':Act}{pb':Nat->Nat}(x:Nxt E B n M h w a fr'.ff h' a' w' M' pb')(hB:B<=w.heap.size):Sim E B n M' h' w' fr' a' pb':=⟨x.glob,x.inv,x.fr,h2F hB x.pres.size⟩
theorem FR.forget1{M:Meta}{h:Heap}{w:World}{fr:Fr}{a:Act}{pb:Nat->Nat}(s:Nat)(hF:FR M h w B n fr.ff a pb):FR M h w B n (Fr.ff {tm:=fr.tm.filt (rF s),lv:=fr.lv.set s none }) a pb:=by
 have htm: ∀k tv,(fr.tm.filt (rF s)).get k=some tv->fr.tm.get k=some tv/\rF s tv=true:=by
  intro k tv e;rw [PT.get_filt]at e;split at e
  ·rename_i x hx;split at e
   ·rename_i hn;simp only [h0V]at e;subst e;exact⟨hx,hn⟩
   ·cases e
  ·cases e
 have hlv: ∀t cs,(fr.lv.set s none).get t=some cs->t≠s/\fr.lv.get t=some cs:=by
  intro t cs e;rw [PT.get_set]at e;split at e
  ·cases e
  ·rename_i hk;exact⟨hk,e⟩
 refine⟨hF.size,fun k tv e=>hF.tm k tv (htm k tv e).1,fun t cs e=>hF.loc t cs (hlv t cs e).2,fun t t' c1 c2 e1 e2 e3=>hF.one t t' c1 c2 (hlv t c1 e1).2 (hlv t' c2 e2).2 e3,fun k t off e=>?_⟩;obtain⟨h1,h2⟩:=htm k _ e;have hts:t≠s:=by simpa [rF]using h2
 obtain⟨cs,hc⟩:=hF.addr k t off h1;refine⟨cs,?_⟩;show(fr.lv.set s none).get t=some cs;rw [PT.get_set,if_neg hts];exact hc
theorem FR.forget{M:Meta}{h:Heap}{w:World}{a:Act}{pb:Nat->Nat} : ∀(l:List Nat){fr:Fr},FR M h w B n fr.ff a pb->FR M h w B n (fr.forget l).ff a pb
 | [],_,hF=>hF
 |s::r,_,hF=>FR.forget r (hF.forget1 s)
theorem FR.start{M:Meta}{h:Heap}{w:World}{a:Act}{pb:Nat->Nat}{fr:Fr}{f:FuncId}{ops:List Oper}{draw:Bool}(hF:FR M h w B n fr.ff a pb):FR M h w B n (fr.start E f ops draw).ff a pb:=by
 unfold Fr.start
 split
 ·exact FR.forget _ hF
 ·exact hF
def g0G(E:Env)(B n:Nat)(c:Code)(fr:Fr)(h:Heap)(ex:Ex)(fr':Fr)(h':Heap):Prop:=
 ∀M w a pb,Sim E B n M h w fr a pb-> ∀Q:Exit->Act->World->Prop,(∀a' w' M' pb',Nxt E B n M h w a fr'.ff h' a' w' M' pb'->Q ex.toExit a' w')->c.wp E.P Q a w
theorem c0G(hcf:b4D E cf)(hcfi:qS E cf)(hm:E.P.follows .mixedOrders=true){id:Nat}{ops:Array Oper}{draw:Bool}{fr fr':Fr}{h h':Heap}(hok:gG n (.region id ops draw)=true)
  (hr:mL E f cf ops.toList draw (a2D ops) (E.an f id) (b9R h.next (E.an f id)) (yM (E.od f id) draw ops.toList) {} [] fr (h.reserve (E.an f id).length)=some (fr',h')):g0G E B n (.region id ops draw) fr h .normal fr' h':=by
 intro M0 w a pb hs0 Q hQ0;obtain⟨M,hI0,hP0⟩:=hs0.inv.reserve (E.an f id).length;have hs:Sim E B n M (h.reserve (E.an f id).length) w fr a pb:=⟨hs0.glob.mono hP0.ext,hI0,hs0.fr.step hP0,hs0.le⟩;have hQ: ∀a' w' M' pb',Nxt E B n M (h.reserve (E.an f id).length) w a fr'.ff h' a' w' M' pb'->Q Ex.normal.toExit a' w':=fun a' w' M' pb' hx=>hQ0 a' w' M' pb' ⟨hx.fr,hx.inv,hx.glob,(hP0.mono hs0.le).trans hx.pres,hx.defers⟩
 simp only [gG,h0Y]at hok;have hrr:=c5I (E:=E) (f:=f) (cf:=cf) (ops:=ops.toList) (bef:=a2D ops) hr;have hT:=d3Q hok.1
 cases draw with
 |false=>
  refine wp_region ?_;rw [show yM (E.od f id) false ops.toList=ops.toList.zipIdx from rfl]at hrr;have:=b4G (ops:=ops.toList) hcf Q _ _ _ _ _ _ _ hrr hT M w a pb hs.glob hs.inv hs.fr hs.le hQ;rw [e5F]at this;simpa using this
 |true=>
  refine wp_region_any hm ?_;have hR:=d3P (by simpa using hok.2);have hI':=hs.inv.drew;have hF':FR M (h.reserve (E.an f id).length) w.drew B n fr.ff a pb:=⟨hs.fr.size,hs.fr.tm,hs.fr.loc,hs.fr.one,hs.fr.addr⟩;have hL0:Todo ops.toList n (yM (E.od f id) true ops.toList)/\(yM (E.od f id) true ops.toList).Pairwise (fun p q=>qR ops.toList p q=true)/\Lst ops.toList (yM (E.od f id) true ops.toList) (Array.replicate ops.toList.length false)/\(yM (E.od f id) true ops.toList).length<=ops.toList.length:=by
   rcases c0F (E.od f id) true ops.toList with z| ⟨_,z,z0,z1,z2⟩
   ·rw [z];exact⟨hT,d3R _,a7U _,by simp⟩
   ·rw [z];exact⟨d0H hT,a7S z2,d3S z1,h2F (h7W _ _) z0⟩
  obtain⟨hT,hrise,hL,hlen⟩:=hL0;have:=e5C (ops:=ops.toList) (fun _ _ e=>b4F e) hcf hcfi hR Q ops.toList.length _ _ _ _ _ _ _ _ hlen hrr hT hrise hL M w.drew a pb hs.glob hI' hF' hs.le (fun a' w' M' pb' hx=>hQ a' w' M' pb'
   ⟨hx.fr,hx.inv,hx.glob,⟨hx.pres.ext,hx.pres.size,hx.pres.os,hx.pres.tape,hx.pres.output,hx.pres.keep⟩,hx.defers⟩)
  simpa using this
theorem d3T(hcf:b4D E cf)(hcfi:qS E cf)(hm:E.P.follows .mixedOrders=true): ∀(c:Code),gG n c=true-> ∀(fr:Fr)(h:Heap)(ex:Ex)(fr':Fr)(h':Heap),dM E f cf N c fr h=some (ex,fr',h')->g0G E B n c fr h ex fr' h':=by
 intro c
 induction c with
 |skip=>
  intro hok fr h ex fr' h' hr;simp [dM]at hr;obtain⟨rfl,rfl,rfl⟩:=hr;intro M w a pb hs Q hQ;exact wp_skip (hQ a w M pb ⟨hs.fr,hs.inv,hs.glob,Pres.refl _ _ _ _,rfl⟩)
 |region id ops draw=>
  intro hok fr h ex fr' h' hr;simp only [dM]at hr;split at hr
  case h_2=>simp at hr
  rename_i fr1 h1 he;simp at hr;obtain⟨rfl,rfl,rfl⟩:=hr;exact fun M w a pb hs Q hQ=>c0G hcf hcfi hm hok he M w a pb ⟨hs.glob,hs.inv,hs.fr.start,hs.le⟩ Q hQ
 |seq x y ihx ihy=>
  intro hok fr h ex fr' h' hr;simp only [gG,h0Y]at hok;simp only [dM]at hr;intro M w a pb hs Q hQ;refine wp_seq ?_;split at hr
  ·rename_i fr1 h1 he;refine ihx hok.1 _ _ _ _ _ he M w a pb hs _ (fun a1 w1 M1 pb1 hx=>?_);show y.wp E.P Q a1 w1;refine ihy hok.2 _ _ _ _ _ hr M1 w1 a1 pb1 (hx.sim hs.le) Q (fun a2 w2 M2 pb2 hy=>hQ a2 w2 M2 pb2 (hx.trans' hy))
  ·rename_i hne;refine ihx hok.1 _ _ _ _ _ hr M w a pb hs _ (fun a1 w1 M1 pb1 hx=>?_);have hq:=hQ a1 w1 M1 pb1 hx
   cases ex with
   |normal=>exact absurd hr (hne _ _)
   |exit id=>exact hq
   |ret=>exact hq
 |cond c x y ihx ihy=>
  intro hok fr h ex fr' h' hr;simp only [gG,h0Y]at hok;simp only [dM]at hr;intro M w a pb hs Q hQ;split at hr
  ·rename_i he;have hv:VR M (.bool true) (a.eval c):=c5J hs.glob hs.fr c _ he;generalize hc:a.eval c=r at hv
   cases hv
   exact wp_cond_true hc (ihx hok.1 _ _ _ _ _ hr M w a pb hs Q hQ)
  ·rename_i he;have hv:VR M (.bool false) (a.eval c):=c5J hs.glob hs.fr c _ he;generalize hc:a.eval c=r at hv
   cases hv
   exact wp_cond_false hc (ihy hok.2 _ _ _ _ _ hr M w a pb hs Q hQ)
  ·simp at hr
 |block id x ihx=>
  intro hok fr h ex fr' h' hr;simp only [gG]at hok;simp only [dM]at hr;intro M w a pb hs Q hQ;refine wp_block ?_;split at hr
  ·rename_i id' fr1 h1 he;refine ihx hok _ _ _ _ _ he M w a pb hs _ (fun a1 w1 M1 pb1 hx=>?_);show(if id'=id then Q .normal a1 w1 else Q (.exit id') a1 w1);split at hr
   ·rename_i hid;simp at hr;obtain⟨rfl,rfl,rfl⟩:=hr;rw [if_pos hid];exact hQ a1 w1 M1 pb1 hx
   ·rename_i hid;simp at hr;obtain⟨rfl,rfl,rfl⟩:=hr;rw [if_neg hid];exact hQ a1 w1 M1 pb1 hx
  ·rename_i hne;refine ihx hok _ _ _ _ _ hr M w a pb hs _ (fun a1 w1 M1 pb1 hx=>?_);have hq:=hQ a1 w1 M1 pb1 hx
   cases ex with
   |normal=>exact hq
   |exit id=>exact absurd hr (hne _ _ _)
   |ret=>exact hq
 |loop x ihx=>
  intro hok fr h ex fr' h' hr;simp only [gG]at hok;simp only [dM]at hr;intro M w a pb hs Q hQ;refine wp_loop_rounds N ?_;have key: ∀(k:Nat)(fr:Fr)(h:Heap),jF (dM E f cf N x) k fr h=some (ex,fr',h')-> ∀M w a pb,Sim E B n M h w fr a pb->
    (∀a' w' M' pb',Nxt E B n M h w a fr'.ff h' a' w' M' pb'->Q ex.toExit a' w')->Code.rounds E.P x Q k a w:=by
   intro k
   induction k with
   |zero=>intro fr h hr;simp [jF]at hr
   |succ k ihk=>
    intro fr h hr M w a pb hs hQ;rw [rounds_succ];unfold jF at hr;split at hr
    ·rename_i fr1 h1 he;refine ihx hok _ _ _ _ _ he M w a pb hs _ (fun a1 w1 M1 pb1 hx=>?_);show Code.rounds E.P x Q k a1 w1;exact ihk fr1 h1 hr M1 w1 a1 pb1 (hx.sim hs.le) (fun a2 w2 M2 pb2 hy=>hQ a2 w2 M2 pb2 (hx.trans' hy))
    ·rename_i hne;refine ihx hok _ _ _ _ _ hr M w a pb hs _ (fun a1 w1 M1 pb1 hx=>?_);have hq:=hQ a1 w1 M1 pb1 hx
     cases ex with
     |normal=>exact absurd hr (hne _ _)
     |exit id=>exact hq
     |ret=>exact hq
  exact key N fr h hr M w a pb hs hQ
 |rangeFunc f ps x y ihx ihy=>
  intro hok fr h ex fr' h' hr;simp [dM]at hr
 |exit id=>
  intro hok fr h ex fr' h' hr;simp [dM]at hr;obtain⟨rfl,rfl,rfl⟩:=hr;intro M w a pb hs Q hQ;exact wp_exit (hQ a w M pb ⟨hs.fr,hs.inv,hs.glob,Pres.refl _ _ _ _,rfl⟩)
 |scope x ihx=>
  intro hok fr h ex fr' h' hr;simp only [gG]at hok;simp only [dM]at hr;intro M w a pb hs Q hQ;refine wp_scope_straight ?_;refine ihx hok _ _ _ _ _ hr M w a pb hs _ (fun a1 w1 M1 pb1 hx=>?_);have hq:=hQ a1 w1 M1 pb1 hx
  cases ex<;>exact hq
 |label l=>
  intro hok fr h ex fr' h' hr;simp [dM]at hr
 |goto l=>
  intro hok fr h ex fr' h' hr;simp [dM]at hr
 |ret=>
  intro hok fr h ex fr' h' hr;simp [dM]at hr;obtain⟨rfl,rfl,rfl⟩:=hr;intro M w a pb hs Q hQ;exact wp_ret (hQ a w M pb ⟨hs.fr,hs.inv,hs.glob,Pres.refl _ _ _ _,rfl⟩)
 |refuse s=>
  intro hok fr h ex fr' h' hr;simp [dM]at hr
def d0I(tmps:Array Value):ResultVar->Sem Value
 | .tmp t=>pure (tmps.getD t undef)
 | .cell a t=>do loadVar t (<-asAddr (tmps.getD a undef))
theorem c0H(fn:Func)(tmps:Array Value):results fn tmps=(do let vs<-fn.results.mapM (d0I tmps);pure (if h:vs.size=1 then vs[0]else .tuple vs)):=rfl
theorem a7V{M:Meta}{h:Heap}{w:World}{fr:Fr}{a:Act}{pb:Nat->Nat}(hs:Sim E B n M h w fr a pb): ∀{rs:List ResultVar}{vs:List IV},iA E.P fr h rs=some vs->
  ∃rv:List Value,(rs.mapM (d0I a.tmps)).run E.P w= .ok rv w/\cW M vs rv
 | [],vs,hr=>by simp [iA]at hr;subst hr;exact⟨[],rfl,cW.nil M⟩
 |r::rs,vs,hr=>by
  unfold iA at hr;split at hr
  case h_2=>simp at hr
  rename_i v vs' h1 h2;simp at hr;subst hr;obtain⟨rv,h3,h4⟩:=a7V hs h2;have hone: ∃q,(d0I a.tmps r).run E.P w= .ok q w/\VR M v q:=by
   cases r with
   |tmp t=>
    simp only [wB]at h1;exact⟨_,rfl,hs.fr.tm t _ (a2I h1)⟩
   |cell ad t=>
    simp only [wB]at h1;split at h1
    ·rename_i s off had;split at h1
     case h_2=>simp at h1
     rename_i cs hlv;have hp:a.tmps.getD ad undef= .pointer (some ⟨pb s,off,none⟩):=hs.fr.tm ad _ had;obtain⟨_,_,_,rc,el,fz,k4,k5,k6⟩:=hs.fr.loc s cs hlv;obtain⟨q,k7,k8⟩:=wD (P:=E.P) (w:=w) (b:=pb s) (base:=0) k6 (fun i hi=>by simp [World.cell?,k4,show i<rc.size by simpa using hi]) h1;refine⟨q,?_,k8⟩;simp only [d0I,hp,asAddr,h1K,h1R,h1F];simpa using k7
    ·rename_i id off had;split at h1
     case h_2=>simp at h1
     rename_i cs hg;have hp:VR M (.ptr id off) (a.tmps.getD ad undef):=hs.fr.tm ad _ had;generalize hq:a.tmps.getD ad undef=pr at hp
     cases hp with
     | @ptr _ _ b hl=>
      obtain⟨b',rc,l1,l2,l3,l4,l5⟩:=hs.inv.row hg;rw [hl]at l1;simp at l1;subst l1;obtain⟨q,k7,k8⟩:=wD (P:=E.P) l4 l5 h1;refine⟨q,?_,k8⟩;simp only [d0I,hq,asAddr,h1K,h1R,h1F];simpa using k7
    ·simp at h1
  obtain⟨q,h5,h6⟩:=hone;refine⟨q::rv,?_,cW.cons h6 h4⟩;simp only [h8M,h1K,h5,h1F,h3,h1R]
def a2L(rv:List Value):Value:=if h:rv.toArray.size=1 then rv.toArray[0]else .tuple rv.toArray
theorem b4I{M:Meta}{vs:List IV}{rv:List Value}(h2:cW M vs rv):VR M (eZ vs) (a2L rv):=by
 unfold a2L
 have hl:=h2.1
 cases vs with
 |nil=>
  cases rv with
  |nil=>exact dT h2
  |cons _ _=>simp at hl
 |cons v vs'=>
  cases rv with
  |nil=>simp at hl
  |cons q rv'=>
   cases vs' with
   |nil=>
    cases rv' with
    |nil=>
     have:=h2.2 0 (by simp) (by simp);simpa [eZ]using this
    |cons _ _=>simp at hl
   |cons v2 vs2=>
    cases rv' with
    |nil=>simp at hl
    |cons q2 rv2=>
     have: ¬ ((q::q2::rv2).toArray.size=1):=by simp
     rw [dif_neg this];exact dT h2
theorem c0I{M:Meta}{h:Heap}{w:World}{fr:Fr}{a:Act}{pb:Nat->Nat}(hs:Sim E B n M h w fr a pb){fn:Func}{vs:List IV}(hr:iA E.P fr h fn.results.toList=some vs):
  ∃rv,(results fn a.tmps).run E.P w= .ok (a2L rv) w/\cW M vs rv:=by
 obtain⟨rv,h1,h2⟩:=a7V hs hr;have hm:(fn.results.mapM (d0I a.tmps)).run E.P w= .ok rv.toArray w:=by
  rw [h7N];simp only [Sem.run_map];rw [h1];rfl
 refine⟨rv,?_,h2⟩;rw [c0H];simp only [h1K,hm,h1F,h1R];rfl
theorem rS: ∀(args:List IV)(i:Nat)(t:PT TV)(k:Nat),(kM args i t).get k=if i<=k/\k<i+args.length then(args[k-i]?).map .v else t.get k
 | [],i,t,k=>by
  rw [if_neg (by simp only [h1U];omega)];rfl
 |v::r,i,t,k=>by
  unfold kM
  rw [rS r (i+1) _ k,PT.get_set]
  by_cases h1:k=i
  ·subst h1;rw [if_neg (by omega),if_pos rfl,if_pos ⟨h1D _,by simp⟩];simp
  ·by_cases h2:i+1<=k/\k<i+1+r.length
   ·rw [if_pos h2,if_pos ⟨by omega,by simp;omega⟩];rw [show k-i=(k- (i+1))+1 by omega];simp
   ·rw [if_neg h2,if_neg h1,if_neg (by simp;omega)]
theorem b4J{cf:FuncId->List IV->Heap->Option (IV×Heap)}(hcf:b4D E cf)(hcfi:qS E cf)(hm:E.P.follows .mixedOrders=true){g:FuncId}{fn:Func}{c:Code}(hfn:E.P.funcs[g]?=some fn)(hbody:fn.body=some c)(hok:gG fn.ntmps c=true)
  {xs vs:List IV} {h h1:Heap} (hr:iJ E g cf N fn.results.toList c xs h=some (vs,h1)) {M:Meta} {w:World} {rs:List Value} (hI:Inv M h w) (hG:GOK E M) (hrs:cW M xs rs):
  Calls E.P g rs.toArray w fun e w'=> ∃rv M',e= .returned (a2L rv)/\cW M' vs rv/\Inv M' h1 w'/\Pres w.heap.size M h w M' h1 w':=by
 have fin: ∀(ex:Ex)(fr:Fr),(ex= .normal\/ex= .ret)->dM E g cf N c ⟨kM xs 0 .nil,.nil⟩ h=some (ex,fr,h1)->iA E.P fr h1 fn.results.toList=some vs->
   Calls E.P g rs.toArray w fun e w'=> ∃rv M',e= .returned (a2L rv)/\cW M' vs rv/\Inv M' h1 w'/\Pres w.heap.size M h w M' h1 w':=by
  intro ex fr hex hrun hres;refine calls_of_wp hfn hbody ?_;have hlen:xs.length=rs.length:=hrs.1;have hget: ∀t,((rs.toArray++Array.replicate (fn.ntmps-rs.toArray.size) undef).getD t undef)=(rs[t]?).getD undef:=by
   intro t;rw [h3G]
   by_cases ht:t<rs.length
   ·rw [h7J (by simpa using ht)];simp
   ·rw [Array.getElem?_append_right (by simp;omega)];simp only [h2E (Nat.le_of_not_lt ht),Option.getD_none,h7V];split<;>rfl
  have hs0:Sim E w.heap.size fn.ntmps M h w ⟨kM xs 0 .nil,.nil⟩ {tmps:=rs.toArray++Array.replicate (fn.ntmps-rs.toArray.size) undef,defers:=[] } (fun _=>0):=by
   refine⟨hG,hI,⟨by simp;omega,fun t tv ht=>?_,fun s cs e=>by simp [Fr.ff,PT.get]at e,fun s s' c1 c2 e=>by simp [Fr.ff,PT.get]at e,fun k s off e=>by
    simp only [Fr.ff,rS]at e;split at e
    ·obtain⟨x,_,h2⟩:=h0W.1 e;cases h2
    ·simp [PT.get]at e⟩,h1D _⟩
   simp only [Fr.ff,rS]at ht;rw [hget];split at ht
   ·rename_i hb;simp only [h7X]at ht;obtain⟨x,hx,rfl⟩:=h0W.1 ht;obtain⟨r,hr1,hr2⟩:=hrs.get hx;rw [hr1];exact hr2
   ·simp [PT.get]at ht
  refine d3T (B:=w.heap.size) hcf hcfi hm c hok _ _ _ _ _ hrun M w _ _ hs0 _ (fun a' w' M' pb' hx=>?_);obtain⟨rv,hr1,hr2⟩:=c0I (hx.sim (h1D _)) hres;rcases hex with rfl|rfl
  ·exact⟨hx.defers,a2L rv,hr1,rv,M',rfl,hr2,hx.inv,hx.pres⟩
  ·exact⟨hx.defers,a2L rv,hr1,rv,M',rfl,hr2,hx.inv,hx.pres⟩
 unfold iJ at hr;split at hr
 ·rename_i fr h' hrun;obtain⟨q,q1,q2⟩:=h0W.1 hr;simp only [h2M]at q2;obtain⟨rfl,rfl⟩:=q2;exact fin .normal fr (.inl rfl) hrun q1
 ·rename_i fr h' hrun;obtain⟨q,q1,q2⟩:=h0W.1 hr;simp only [h2M]at q2;obtain⟨rfl,rfl⟩:=q2;exact fin .ret fr (.inr rfl) hrun q1
 ·cases hr
theorem d3U{M M2:Meta}{h h2:Heap}{w w':World}(a:Inv M h w)(hi:Inv M2 h2 w')(hp:Pres w.heap.size M.pure Heap.empty w M2 h2 w'):
  ∃M3,Inv M3 h w'/\Pres w.heap.size M h w M3 h w'/\(∀b o v,M2.im b o=some v->M3.im b o=some v)/\(∀b n,M2.bsz b=some n->M3.bsz b=some n):=by
 have hk: ∀b,b<w.heap.size->w'.heap[b]?=w.heap[b]?/\∀o,M2.im b o=M.im b o:=fun b hb=>by
  obtain⟨h1,_,h3⟩:=hp.keep b hb (by rintro⟨id,e⟩;simp [Wb,Heap.empty,Heap.get,PT.get]at e);exact⟨h1,h3⟩
 let M3:Meta:= {M with im:=fun b o=>if b<w.heap.size then M.im b o else M2.im b o,bsz:=fun b=>match M.bsz b with|some n=>some n|none=>M2.bsz b }
 have him3: ∀b o,b<w.heap.size->M3.im b o=M.im b o:=fun b o hb=>if_pos hb
 have hE:Ext M M3:=⟨h1D _,fun _ _ e=>e,fun b o v e=>by
  have hb:b<w.heap.size:=by
   have:=a.im b o v e;unfold World.cell? at this;rcases h2D b w.heap.size with q|q
   ·exact q
   ·simp [Array.getElem?_eq_none q]at this
  rw [him3 b o hb];exact e,fun b n e=>by simp [M3,e],fun _ _=>h1D _,fun _ _ _=>rfl⟩
 have hbs: ∀b n,M.bsz b=some n->M3.bsz b=M.bsz b:=fun b n e=>by simp [M3,e]
 have hblk: ∀{b rc},Blk M w b rc->Blk M3 w' b rc:=fun l=>l.keep (hk _ l.lt).1 (hbs _ _ l.bsz)
 refine⟨M3,⟨a.nid,a.fresh,a.freshl,fun id cs e=>?_,fun id n e=>?_,fun id es e=>?_,fun b o v e=>?_,fun b n e=>?_,a.one,a.resv⟩,⟨hE,hp.size,hp.os,hp.tape,hp.output,fun b hb hn=>⟨(hk b hb).1,hn,fun o=>him3 b o hb⟩⟩,fun b o v e=>?_,fun b n e=>?_⟩
 ·obtain⟨b,rc,l1,l2,l3,l4,l5⟩:=a.cells id cs e;exact⟨b,rc,l1,hblk l2,l3,l4.mono hE,fun o=>by rw [him3 b o l2.lt];exact l5 o⟩
 ·obtain⟨l0,b,e',rc,l1,l2,l3,l4⟩:=a.tips id n e;exact⟨l0,b,e',rc,l1,hblk l2,l3,fun o ho=>by rw [him3 b o l2.lt];exact l4 o ho⟩
 ·obtain⟨b,ents,cl,l1,l2,l3⟩:=a.maps id es e;exact⟨b,ents,cl,l1,(hk b (cL l2)).1.trans l2,⟨l3.1.1.mono hE,l3.1.2.mono hE⟩,l3.2⟩
 ·simp only [M3]at e;split at e
  ·rename_i hb;have h1:=a.im b o v e;unfold World.cell? at h1⊢;simp only at h1⊢;rw [(hk b hb).1];exact h1
  ·exact hi.im b o v e
 ·simp only [M3]at e;split at e
  ·rename_i m hm;have:=a.bsz b m hm;have:=hp.size;omega
  ·exact hi.bsz b n e
 ·simp only [M3];split
  ·rename_i hb;rw [<- (hk b hb).2 o];exact e
  ·exact e
 ·simp only [M3];split
  ·rename_i m hm;have:=hp.ext.bsz b m hm;rw [this]at e;exact e
  ·exact e
theorem e5G{M:Meta}{h:Heap}{w:World}(a:Inv M h w):Inv M.pure Heap.empty w where
 nid:=rfl
 fresh:=fun id _=>by simp [Heap.empty,Heap.get,PT.get]
 freshl:=fun _ _=>rfl
 cells:=fun id cs e=>by simp [Heap.empty,Heap.get,PT.get]at e
 tips:=fun id n e=>by simp [Heap.empty,Heap.get,PT.get]at e
 maps:=fun id es e=>by simp [Heap.empty,Heap.get,PT.get]at e
 im:=a.im
 bsz:=a.bsz
 one:=fun id id' b e _=>by simp [Wb,Heap.empty,Heap.get,PT.get]at e
 resv:=fun id e=>by simp [Heap.empty,Heap.get,PT.get]at e
theorem b4K(E:Env): ∀N,qS E (jH E N)
 |0=>fun g hi xs h v h' hr=>by simp [jH]at hr
 |N+1=>fun g hi xs h v h' hr=>by
  rw [iY]at hr;split at hr
  case h_2=>simp at hr
  rename_i fn hfn;split at hr
  case h_2=>simp at hr
  rename_i c hbody;simp only [hi]at hr;split at hr
  case isFalse=>simp at hr
  rename_i hpu;split at hr
  case h_2=>simp at hr
  rename_i vs h1 hb;obtain⟨v',hv',hq⟩:=h0W.1 hr;simp only [h2M]at hq;obtain⟨rfl,rfl⟩:=hq;refine⟨rfl,fun h2=>?_⟩;rw [iY];simp only [hfn,hbody,hi,hpu,hb,hv',if_true,h4C]
theorem b4L(hm:E.P.follows .mixedOrders=true)(hP:yX E.P=true): ∀N,b4D E (jH E N)
 |0=>fun g xs h v h' hr=>by simp [jH]at hr
 |N+1=>fun g xs h v h' hr=>by
  have ih:=b4L hm hP N;rw [iY]at hr;split at hr
  case h_2=>simp at hr
  rename_i fn hfn;split at hr
  case h_2=>simp at hr
  rename_i c hbody;have hok:c0E fn=true:=by
   unfold yX at hP;rw [h2L]at hP;have:fn∈E.P.funcs.toList:=by
    rw [<-Array.getElem?_toList]at hfn;exact h3C hfn
   exact hP fn this
  unfold c0E at hok;rw [hbody]at hok;simp only [h0Y,h2K]at hok;refine⟨⟨fn,hfn,by simp [hbody],hok.2⟩,fun M w rs hI hG hrs=>?_⟩;split at hr
  ·split at hr
   case h_2=>simp at hr
   rename_i vs h1 hb;refine(b4J ih (b4K E N) hm hfn hbody hok.1 hb hI hG (c5N (E:=E) (f:=g) (ts:=fn.params.toList) hrs)).mono fun e w'=>?_
   rintro⟨rv,M',h2,h3,h4,h5⟩;obtain⟨M2,g1,g2,g3⟩:=c0C E g h4 (b4I (c5N (E:=E) (f:=g) (ts:=fn.resultTypes.toList) h3));simp only [h0V]at hr;rw [hr]at g1 g2 g3;exact⟨_,M2,h2,g3,g1,h5.trans (g2.mono h5.size)⟩
  ·split at hr
   case isFalse=>simp at hr
   rename_i hpu;split at hr
   case h_2=>simp at hr
   rename_i vs h1 hb;obtain⟨v',hv',hq⟩:=h0W.1 hr;simp only [h2M]at hq;obtain⟨rfl,rfl⟩:=hq;have hargs:cW M.pure (hY E.P fn.params.toList xs) rs:=b3T (M:=M) (M':=M.pure) (fun _ _ _ e=>e) (fun _ _ e=>e) (wC hrs) hpu;have hGp:GOK E M.pure:=fun g cs e=>(show VR M.pure.pure (.vref cs 0) _ from hG g cs e)
   refine(b4J ih (b4K E N) hm hfn hbody hok.1 hb (e5G hI) hGp hargs).mono fun e w'=>?_
   rintro⟨rv,M',h2,h3,h4,h5⟩;have hfr: ∃M2 h2',Inv M2 h2' w'/\Pres w.heap.size M.pure Heap.empty w M2 h2' w'/\cW M2 (a2F E g vs h1) rv:=by
    unfold a2F
    split
    ·obtain⟨M2,c1,c2,c3,_⟩:=a1V b0K vs M' h1 w' rv h4 h3;exact⟨M2,_,c1,h5.trans (c2.mono h5.size),c3⟩
    ·exact⟨M',h1,h4,h5,h3⟩
   obtain⟨M2,h2',c1,c2,c3⟩:=hfr;obtain⟨M3,d1,d2,d3,d4⟩:=d3U hI c1 c2;unfold b0C at hv';simp only at hv';split at hv'
   case isFalse=>cases hv'
   rename_i hpo;simp only [h0V]at hv';subst hv';exact⟨_,M3,h2,b4I (b3T d3 d4 (wC c3) hpo),d1,d2⟩
end
section
variable {E:Env} {f:FuncId} {cf cf':FuncId->List IV->Heap->Option (IV×Heap)} {ops:List Oper} {draw:Bool} {bef:Nat->Nat}
def b4M(cf cf':FuncId->List IV->Heap->Option (IV×Heap)):Prop:= ∀g xs h r,cf g xs h=some r->cf' g xs h=some r
theorem a7W(hc:b4M cf cf'){o:Oper}{ev:Operand->Option TV}{lv:Nat->Option (List IV)}{h:Heap}{e:Ef}(he:dX E f cf draw o ev lv h=some e):dX E f cf' draw o ev lv h=some e:=by
 unfold dX at he⊢
 cases hp:eN E f o ev with
 |some q=>simp only [hp]at he⊢;exact he
 |none=>
 simp only [hp]at he⊢
 cases hl:gD E o ev lv with
 |some q=>simp only [hl]at he⊢;exact he
 |none=>
 simp only [hl]at he⊢
 cases hs:gZ E o ev lv with
 |some q=>simp only [hs]at he⊢;exact he
 |none=>
 simp only [hs]at he⊢
 cases hr:dP E o ev h with
 |some q=>simp only [hr]at he⊢;exact he
 |none=>
 simp only [hr]at he⊢
 cases hee:gV E f o ev h with
 |some q=>simp only [hee]at he⊢;exact he
 |none=>
 simp only [hee]at he⊢
 cases hcl:dJ o ev with
 |none=>simp only [hcl]at he;cases he
 |some q=>
 simp only [hcl]at he⊢
 cases hcf:cf q.1 q.2 h with
 |none=>simp only [hcf]at he;cases he
 |some r=>simp only [hcf,hc _ _ _ _ hcf]at he⊢;exact he
theorem d3V(hc:b4M cf cf'){o:Oper}{tm:Nat->Option TV}{lv:Nat->Option (List IV)}{h:Heap}{e:Ef}(he:uN E f cf ops draw o tm lv h=some e):uN E f cf' ops draw o tm lv h=some e:=by
 unfold uN at he⊢;split at he
 ·cases he
 ·exact he
 ·exact a7W hc he
theorem a7X(hc:b4M cf cf'){rs:Option Nat}{o:Oper}{tm:Nat->Option TV}{lv:Nat->Option (List IV)}{h:Heap}{e:Ef}(he:dE E f cf ops draw rs o tm lv h=some e):dE E f cf' ops draw rs o tm lv h=some e:=by
 cases rs with
 |none=>exact d3V hc he
 |some n=>exact he
theorem rT(hc:b4M cf cf'){al:List Nat}{rs:Nat->Option Nat} : ∀{l:List (Oper×Nat)}{m:Met}{pd:Pd}{fr:Fr}{h:Heap}{r:Fr×Heap},mL E f cf ops draw bef al rs l m pd fr h=some r->mL E f cf' ops draw bef al rs l m pd fr h=some r
 | [],_,_,_,_,_,he=>he
 | (o,i)::l,m,pd,fr,h,r,he=>by
  unfold mL at he⊢;split at he
  ·rename_i e hee;simp only [a7X hc hee];split at he
   ·rename_i hw;rw [if_pos hw];exact rT hc he
   ·cases he
  ·cases he
theorem pY{body body':Fr->Heap->Option (Ex×Fr×Heap)}(hb: ∀fr h r,body fr h=some r->body' fr h=some r): ∀{n m:Nat}{fr:Fr}{h:Heap}{r:Ex×Fr×Heap},n<=m->jF body n fr h=some r->jF body' m fr h=some r
 |0,_,_,_,_,_,he=>by simp [jF]at he
 |n+1,0,_,_,_,hn,_=>by omega
 |n+1,m+1,fr,h,r,hn,he=>by
  unfold jF at he⊢;split at he
  ·rename_i fr' h' hbo;simp only [hb _ _ _ hbo];exact pY hb (h6N hn) he
  ·rename_i hne;rw [hb _ _ _ he];split
   ·rename_i fr' h' heq
    cases heq
    exact absurd he (hne _ _)
   ·rfl
theorem tG(hc:b4M cf cf'){n m:Nat}(hn:n<=m): ∀{c:Code}{fr:Fr}{h:Heap}{r:Ex×Fr×Heap},dM E f cf n c fr h=some r->dM E f cf' m c fr h=some r:=by
 intro c
 induction c with
 |region id ops draw=>
  intro fr h r he;simp only [dM]at he⊢;split at he
  ·rename_i fr' h' ho;simp only [rT hc ho];exact he
  ·cases he
 |seq a b iha ihb=>
  intro fr h r he;simp only [dM]at he⊢;split at he
  ·rename_i fr' h' ha;simp only [iha ha];exact ihb he
  ·rename_i hne;rw [iha he];split
   ·rename_i fr' h' heq
    cases heq
    exact absurd he (hne _ _)
   ·rfl
 |cond c a b iha ihb=>
  intro fr h r he;simp only [dM]at he⊢;split at he
  ·exact iha he
  ·exact ihb he
  ·cases he
 |block id c ih=>
  intro fr h r he;simp only [dM]at he⊢;split at he
  ·rename_i id' fr' h' ha;simp only [ih ha];exact he
  ·rename_i hne;rw [ih he];split
   ·rename_i id' fr' h' heq
    cases heq
    exact absurd he (hne _ _ _)
   ·rfl
 |loop c ih=>
  intro fr h r he;simp only [dM]at he⊢;exact pY (fun _ _ _ q=>ih q) hn he
 |scope c ih=>
  intro fr h r he;simp only [dM]at he⊢;exact ih he
 |_=>intro fr h r he;first|exact he| (simp only [dM]at he⊢;exact he)
theorem wR(hc:b4M cf cf'){n m:Nat}(hn:n<=m){rs:List ResultVar}{c:Code}{args:List IV}{h:Heap}{r:List IV×Heap}(he:iJ E f cf n rs c args h=some r):iJ E f cf' m rs c args h=some r:=by
 unfold iJ at he⊢;split at he
 ·rename_i fr h' hr;simp only [tG hc hn hr];exact he
 ·rename_i fr h' hr;simp only [tG hc hn hr];exact he
 ·cases he
theorem oQ{E:Env} : ∀{n m:Nat},n<=m->b4M (jH E n) (jH E m)
 |0,_,_=>fun g xs h r he=>by simp [jH]at he
 |n+1,0,hn=>by omega
 |n+1,m+1,hn=>fun g xs h r he=>by
  have ih:=oQ (E:=E) (h6N hn);have hn':=h6N hn;rw [iY]at he⊢;split at he
  ·rename_i fn hf;split at he
   ·rename_i c hb;split at he
    ·split at he
     ·rename_i vs h' hr;simp only [wR ih hn' hr];exact he
     ·cases he
    ·split at he
     ·rename_i hp;rw [if_pos hp];split at he
      ·rename_i vs h' hr;simp only [wR ih hn' hr];exact he
      ·cases he
     ·cases he
   ·cases he
  ·cases he
def FF.forget(F:FF):List Nat->FF
 | []=>F
 |s::r=>FF.forget {tm:=(F.clr s).tm,lv:=fun k=>if k=s then none else F.lv k } r
def FF.start(E:Env)(f:FuncId)(ops:List Oper)(draw:Bool)(F:FF):FF:=if draw then F.forget (ops.filterMap (b9O E f))else F
theorem a7Y: ∀(l:List Nat)(fr:Fr),(fr.forget l).ff=fr.ff.forget l
 | [],_=>rfl
 |s::r,fr=>by
  unfold Fr.forget FF.forget
  rw [a7Y r]
  congr 1
  simp only [Fr.ff,FF.clr]
  congr 1
  ·funext k;rw [PT.get_filt];cases fr.tm.get k<;>rfl
  ·funext k;rw [PT.get_set]
theorem d3W(fr:Fr)(ops:List Oper)(draw:Bool):(fr.start E f ops draw).ff=fr.ff.start E f ops draw:=by
 unfold Fr.start FF.start
 split
 ·exact a7Y _ _
 ·rfl
end
def aU(E:Env)(g:FuncId)(xs:List IV)(h:Heap)(Q:IV->Heap->Prop):Prop:= ∃n v h',jH E n g xs h=some (v,h')/\Q v h'
abbrev Ps:=List (Nat×(Heap->Prop))
def Pok:Pd->Ps->Prop
 | [],[]=>True
 |p::r,q::s=>(p.1=q.1/\∀h2,q.2 h2->p.2 h2=true)/\Pok r s
 |_,_=>False
def c5O(ps:Ps)(b:Nat)(h:Heap):Prop:= ∀q∈ps,b.testBit q.1=true\/q.2 h
theorem Pok.all: ∀{pd:Pd}{ps:Ps}{b:Nat}{h:Heap},Pok pd ps->c5O ps b h->pd.all (fun p=>b.testBit p.1||p.2 h)=true
 | [],[],_,_,_,_=>rfl
 |p::r,q::s,b,h,hp,hw=>by
  rw [h5T,h0Y,h2Z];refine⟨?_,Pok.all hp.2 fun x hx=>hw x (h2N _ hx)⟩;rw [hp.1.1];rcases hw q h2C with z|z
  ·exact .inl z
  ·exact .inr (hp.1.2 h z)
 | [],_::_,_,_,hp,_=>hp.elim
 |_::_,[],_,_,hp,_=>hp.elim
def a2M(E:Env)(f:FuncId)(ops:List Oper)(draw:Bool)(bef:Nat->Nat)(al:List Nat)(rs:Nat->Option Nat)(l:List (Oper×Nat))(m:Met)(ps:Ps)(F:FF)(h:Heap)(Q:FF->Heap->Prop):Prop:=
 ∀(fr:Fr)(pd:Pd),Pok pd ps->fr.ff=F-> ∃n fr' h',mL E f (jH E n) ops draw bef al rs l m pd fr h=some (fr',h')/\Q fr'.ff h'
def bU(E:Env)(f:FuncId)(c:Code)(F:FF)(h:Heap)(Q:Ex->FF->Heap->Prop):Prop:=
 ∀fr:Fr,fr.ff=F-> ∃n x fr' h',dM E f (jH E n) n c fr h=some (x,fr',h')/\Q x fr'.ff h'
section
variable {E:Env} {f:FuncId}
theorem bU.mono{c:Code}{F:FF}{h:Heap}{Q R:Ex->FF->Heap->Prop}(a:bU E f c F h Q)(hq: ∀x F' h',Q x F' h'->R x F' h'):bU E f c F h R:=fun fr hf=>by
 obtain⟨n,x,fr',h',h1,h2⟩:=a fr hf;exact⟨n,x,fr',h',h1,hq _ _ _ h2⟩
theorem bU.up{c:Code}{fr:Fr}{h:Heap}{n m:Nat}(hn:n<=m){r:Ex×Fr×Heap}(h1:dM E f (jH E n) n c fr h=some r):dM E f (jH E m) m c fr h=some r:=
 tG (oQ hn) hn h1
theorem bU.skip{F:FF}{h:Heap}{Q:Ex->FF->Heap->Prop}(hq:Q .normal F h):bU E f .skip F h Q:=fun fr hf=>⟨0,_,_,_,rfl,by rw [hf];exact hq⟩
theorem bU.exit{id:Nat}{F:FF}{h:Heap}{Q:Ex->FF->Heap->Prop}(hq:Q (.exit id) F h):bU E f (.exit id) F h Q:=fun fr hf=>⟨0,_,_,_,rfl,by rw [hf];exact hq⟩
theorem bU.ret{F:FF}{h:Heap}{Q:Ex->FF->Heap->Prop}(hq:Q .ret F h):bU E f .ret F h Q:=fun fr hf=>⟨0,_,_,_,rfl,by rw [hf];exact hq⟩
theorem bU.seq{a b:Code}{F:FF}{h:Heap}{Q:Ex->FF->Heap->Prop}(ha:bU E f a F h fun x F' h'=>match x with| .normal=>bU E f b F' h' Q|x=>Q x F' h'):bU E f (.seq a b) F h Q:=fun fr hf=>by
 obtain⟨n,x,fr1,h1,r1,q1⟩:=ha fr hf
 cases x with
 |normal=>
  obtain⟨m,y,fr2,h2,r2,q2⟩:=q1 fr1 rfl;refine⟨max n m,y,fr2,h2,?_,q2⟩;simp only [dM,bU.up (h8G n m) r1];exact bU.up (h6R n m) r2
 |exit id=>exact⟨n,_,fr1,h1,by simp only [dM,r1],q1⟩
 |ret=>exact⟨n,_,fr1,h1,by simp only [dM,r1],q1⟩
theorem bU.cond{x:Operand}{b:Bool}{c d:Code}{F:FF}{h:Heap}{Q:Ex->FF->Heap->Prop}(he:bC E F.tm x=some (.v (.bool b)))(hc:b=true->bU E f c F h Q)(hd:b=false->bU E f d F h Q):
  bU E f (.cond x c d) F h Q:=fun fr hf=>by
 have he':bC E fr.tm.get x=some (.v (.bool b)):=by rw [<-he,<-hf];rfl
 cases b with
 |true=>
  obtain⟨n,y,fr1,h1,r1,q1⟩:=hc rfl fr hf;exact⟨n,y,fr1,h1,by simp only [dM,he',r1],q1⟩
 |false=>
  obtain⟨n,y,fr1,h1,r1,q1⟩:=hd rfl fr hf;exact⟨n,y,fr1,h1,by simp only [dM,he',r1],q1⟩
theorem bU.block{id:Nat}{c:Code}{F:FF}{h:Heap}{Q:Ex->FF->Heap->Prop}(hc:bU E f c F h fun x F' h'=>match x with| .exit id'=>if id'=id then Q .normal F' h' else Q (.exit id') F' h'|x=>Q x F' h'):bU E f (.block id c) F h Q:=fun fr hf=>by
 obtain⟨n,x,fr1,h1,r1,q1⟩:=hc fr hf
 cases x with
 |normal=>exact⟨n,_,fr1,h1,by simp only [dM,r1],q1⟩
 |ret=>exact⟨n,_,fr1,h1,by simp only [dM,r1],q1⟩
 |exit id'=>
  simp only at q1
  by_cases hid:id'=id
  ·rw [if_pos hid]at q1;exact⟨n,.normal,fr1,h1,by simp only [dM,r1,if_pos hid],q1⟩
  ·rw [if_neg hid]at q1;exact⟨n,.exit id',fr1,h1,by simp only [dM,r1,if_neg hid],q1⟩
theorem bU.scope{c:Code}{F:FF}{h:Heap}{Q:Ex->FF->Heap->Prop}(hc:bU E f c F h Q):bU E f (.scope c) F h Q:=fun fr hf=>by
 obtain⟨n,x,fr1,h1,r1,q1⟩:=hc fr hf;exact⟨n,x,fr1,h1,by simp only [dM,r1],q1⟩
theorem bU.loop{c:Code}{F:FF}{h:Heap}{Q:Ex->FF->Heap->Prop}(hc:bU E f c F h fun x F' h'=>match x with| .normal=>bU E f (.loop c) F' h' Q|x=>Q x F' h'):bU E f (.loop c) F h Q:=fun fr hf=>by
 obtain⟨n,x,fr1,h1,r1,q1⟩:=hc fr hf;have more: ∀(y:Ex)(fr2:Fr)(h2:Heap)(k:Nat),n<=k->(∀fr' h',(some (x,fr1,h1):Option (Ex×Fr×Heap))=some (.normal,fr',h')->jF (dM E f (jH E (k+1)) (k+1) c) k fr' h'=some (y,fr2,h2))->(x≠ .normal->y=x/\fr2=fr1/\h2=h1)->
   dM E f (jH E (k+1)) (k+1) (.loop c) fr h=some (y,fr2,h2):=by
  intro y fr2 h2 k hk hn hx;simp only [dM];unfold jF
  rw [bU.up (h7L hk) r1]
  cases x with
  |normal=>exact hn _ _ rfl
  |exit id=>obtain⟨rfl,rfl,rfl⟩:=hx (by simp);rfl
  |ret=>obtain⟨rfl,rfl,rfl⟩:=hx (by simp);rfl
 cases x with
 |normal=>
  obtain⟨m,y,fr2,h2,r2,q2⟩:=q1 fr1 rfl;refine⟨max n m+1,y,fr2,h2,more y fr2 h2 _ (h8G n m) (fun fr' h' e=>?_) (fun e=>absurd rfl e),q2⟩
  cases e
  simp only [dM]at r2;have hm:m<=max n m+1:=h7L (h6R n m);exact pY (fun _ _ _ q=>tG (oQ hm) hm q) (h6R n m) r2
 |exit id=>exact⟨n+1,_,fr1,h1,more _ _ _ n (h1D n) (fun _ _ e=>by cases e) (fun _=>⟨rfl,rfl,rfl⟩),q1⟩
 |ret=>exact⟨n+1,_,fr1,h1,more _ _ _ n (h1D n) (fun _ _ e=>by cases e) (fun _=>⟨rfl,rfl,rfl⟩),q1⟩
theorem bU.region{id:Nat}{ops:Array Oper}{draw:Bool}{F:FF}{h:Heap}{Q:Ex->FF->Heap->Prop}(hc:a2M E f ops.toList draw (a2D ops) (E.an f id) (b9R h.next (E.an f id)) (yM (E.od f id) draw ops.toList) {} [] (F.start E f ops.toList draw) (h.reserve (E.an f id).length) fun F' h'=>Q .normal F' h'):bU E f (.region id ops draw) F h Q:=fun fr hf=>by
 obtain⟨n,fr1,h1,r1,q1⟩:=hc (fr.start E f ops.toList draw) [] trivial (by rw [d3W,hf]);exact⟨n,_,fr1,h1,by simp only [dM,r1],q1⟩
theorem a2M.nil{ops:List Oper}{draw:Bool}{bef:Nat->Nat}{al:List Nat}{rs:Nat->Option Nat}{m:Met}{ps:Ps}{F:FF}{h:Heap}{Q:FF->Heap->Prop}(hq:Q F h):a2M E f ops draw bef al rs [] m ps F h Q:=fun fr pd hp hf=>⟨0,fr,h,rfl,by rw [hf];exact hq⟩
def aY(h:Heap)(id k:Nat):Option IV:=match h.get id with
 | .cells cs=>cs[k]?
 |_=>none
def b0L(h h2:Heap)(id k:Nat):Prop:=aY h2 id k=aY h id k
def psQ(E:Env)(o:Oper)(ev:Operand->Option TV)(h h2:Heap):Prop:=match o.op with
 | .load t a=>match ev a with
  |some (.v (.ptr id off))=>match gA E.P t with
   |some (false,_)=>b0L h h2 id off
   |_=>mP h h2 (some id)
  |_=>True
 |_=>mP h h2 (jO o ev)
theorem f1R{E:Env}{o:Oper}{ev:Operand->Option TV}{h h2:Heap}{v:TV}(hr:dP E o ev h=some v)(hs:psQ E o ev h h2):dP E o ev h2=some v:=by
 unfold psQ at hs;split at hs
 ·rename_i t a hop;split at hs
  ·rename_i id off he;split at hs
   ·rename_i n hsh;unfold dP at hr⊢;simp only [hop,he]at hr⊢;unfold b0L aY at hs;split at hr
    ·rename_i cs hc;rw [hc]at hs;simp only [fA,hsh]at hr⊢;obtain⟨w,hw,rfl⟩:=h0W.1 hr;simp only at hs;rw [hw]at hs;split at hs
     ·rename_i c2 hc2;simp only [hc2,hs,h4C]
     ·cases hs
    ·cases hr
   ·refine yU hr ?_;unfold jO
    simp only [hop,he];exact hs
  ·rename_i hne;unfold dP at hr;simp only [hop]at hr
   cases hr
 ·exact yU hr hs
def a7Z(E:Env)(o:Oper)(ev:Operand->Option TV)(e:Ef)(i:Nat)(ps:Ps):Ps:=match e.c with
 | .r=>(i,fun h2=>psQ E o ev e.h h2)::ps
 |_=>ps
theorem d0J{cf:FuncId->List IV->Heap->Option (IV×Heap)}{draw:Bool}{o:Oper}{ev:Operand->Option TV}{lv:Nat->Option (List IV)}{h:Heap}{e:Ef}(he:dX E f cf draw o ev lv h=some e)(hc:e.c= .r):
  e.h=h/\∃v,dP E o ev h=some v/\e.v=some v:=by
 unfold dX at he;split at he
 ·repeat' split at he
  all_goals first
   | (cases he;done)
   | (cases he;cases hc)
 ·split at he
  ·cases he;cases hc
  ·split at he
   ·cases he;cases hc
   ·split at he
    ·rename_i v hv
     cases he
     exact⟨rfl,v,hv,rfl⟩
    ·split at he
     ·cases he;cases hc
     ·split at he
      ·split at he
       ·cases he
        rename_i g xs _ _ _ _ _;simp only [pS]at hc;split at hc<;>cases hc
       ·cases he
      ·cases he
theorem Pok.add{cf:FuncId->List IV->Heap->Option (IV×Heap)}{draw:Bool}{ops:List Oper}{rs:Option Nat}{o:Oper}{tm:Nat->Option TV}{lv:Nat->Option (List IV)}{h:Heap}{e:Ef}{i:Nat}{pd:Pd}{ps:Ps}(he:dE E f cf ops draw rs o tm lv h=some e)(hp:Pok pd ps):
  Pok (mK E o (bC E tm) e i pd) (a7Z E o (bC E tm) e i ps):=by
 by_cases hc:e.c= .r
 ·unfold mK a7Z
  rw [hc];refine⟨⟨rfl,fun h2 hs=>?_⟩,hp⟩
  cases rs with
  |some n=>
   exfalso;rcases yW he with rfl| ⟨v,ha,rfl⟩| ⟨v,x,ha,_,rfl⟩<;>cases hc
  |none=>
  have he:uN E f cf ops draw o tm lv h=some e:=he;unfold uN at he;split at he
  ·cases he
  ·cases he;cases hc
  ·obtain⟨e1,v,e2,e3⟩:=d0J he hc;rw [e1]at hs;have e4:=f1R e2 hs;obtain⟨x,rfl⟩:=d3B e2;simp only [e4,e3,e4I];exact yV x
 ·have e1:mK E o (bC E tm) e i pd=pd:=by
   unfold mK
   split
   ·rename_i h;exact absurd h hc
   ·rfl
  have e2:a7Z E o (bC E tm) e i ps=ps:=by
   unfold a7Z
   split
   ·rename_i h;exact absurd h hc
   ·rfl
  rw [e1,e2];exact hp
theorem a2M.cons{ops:List Oper}{draw:Bool}{bef:Nat->Nat}{al:List Nat}{rs:Nat->Option Nat}{o:Oper}{i:Nat}{l:List (Oper×Nat)}{m:Met}{ps:Ps}{F:FF}{h:Heap}{Q:FF->Heap->Prop}
  (he: ∃n e,dE E f (jH E n) ops draw (rs i) o F.tm F.lv h=some e/\(draw=false\/ ((jE (m.chk e.c) (bef i)=true\/e.c= .e/\jE (m.e|||m.a) (bef i)=true/\c5O ps (bef i) e.h)/\b0B al rs m (bef i) (jO o (bC E F.tm)) e.c=true))/\a2M E f ops draw bef al rs l (m.add e.c i) (a7Z E o (bC E F.tm) e i ps) (F.app o.dst e) e.h Q):
  a2M E f ops draw bef al rs ((o,i)::l) m ps F h Q:=fun fr pd hp hf=>by
 obtain⟨n,e,h1,h2,h3⟩:=he;have h1':dE E f (jH E n) ops draw (rs i) o fr.tm.get fr.lv.get h=some e:=by rw [<-h1,<-hf];rfl
 have hev:bC E F.tm=bC E fr.tm.get:=by rw [<-hf];rfl
 rw [hev]at h2 h3;obtain⟨k,fr',h',h4,h5⟩:=h3 (fr.app o.dst e) (mK E o (bC E fr.tm.get) e i pd) (Pok.add h1' hp) (by rw [d3L,hf]);refine⟨max n k,fr',h',?_,h5⟩;unfold mL
 have h2':(!draw||okB al rs m pd (bef i) (jO o (bC E fr.tm.get)) e)=true:=by
  rw [h2Z];rcases h2 with z| ⟨z,z4⟩
  ·exact .inl (by rw [z];rfl)
  ·refine .inr ?_;unfold okB
   rw [h0Y,h2Z];refine⟨?_,z4⟩;rcases z with z| ⟨z1,z2,z3⟩
   ·exact .inl z
   ·refine .inr ?_;unfold b9Q
    simp only [z1,z2,h2G];exact Pok.all hp z3
 simp only [a7X (oQ (h8G n k)) h1',h2',if_true];exact rT (oQ (h6R n k)) h4
end
structure GF where
 tm:PT (Option TV)
 lv:PT (Option (List IV))
 b:FF
def FF.none:FF:=⟨fun _=>Option.none,fun _=>Option.none⟩
def GF.tmg(F:GF)(k:Nat):Option TV:=match F.tm.get k with
 |some x=>x
 |none=>F.b.tm k
def GF.lvg(F:GF)(k:Nat):Option (List IV):=match F.lv.get k with
 |some x=>x
 |none=>F.b.lv k
def GF.ff(F:GF):FF:=⟨F.tmg,F.lvg⟩
def GF.put(F:GF)(d:Option Tmp)(v:Option TV):GF:=match d with
 |some t=> {F with tm:=F.tm.set t (some v) }
 |none=>F
def GF.lset(F:GF)(s:Nat)(cs:Option (List IV)):GF:= {F with lv:=F.lv.set s (some cs) }
def c5P(s:Nat):Option TV->Option TV
 |some y=>if rF s y then some y else none
 |none=>none
def PT.mapv{α:Type}(g:α->α):PT α->PT α
 | .nil=> .nil
 | .node l v r=> .node (l.mapv g) (match v with|some x=>some (g x)|none=>none) (r.mapv g)
def GF.clr(F:GF)(s:Nat):GF:= {F with tm:=F.tm.mapv (c5P s),b:=F.b.clr s }
def GF.app(F:GF)(d:Option Tmp)(e:Ef):GF:=match e.loc with
 |some (s,cs)=>match e.box with
  |true=>((F.clr s).lset s (some cs)).put d e.v
  |false=>(F.put d e.v).lset s (some cs)
 |none=>F.put d e.v
def GF.forget(F:GF):List Nat->GF
 | []=>F
 |s::r=>GF.forget ((F.clr s).lset s none) r
def GF.start(E:Env)(f:FuncId)(ops:List Oper)(draw:Bool)(F:GF):GF:=match draw with
 |true=>F.forget (ops.filterMap (b9O E f))
 |false=>F
structure Sp where
 br:Bool->Prop->Prop->Prop
 need:Bool->Prop->Prop
 ldI:IntKind->List IV->Nat->(Int->Prop)->Prop
 ldB:List IV->Nat->(Bool->Prop)->Prop
 ldS:List IV->Nat->(List UInt8->Prop)->Prop
 ldV:Nat->List IV->Nat->(Option Nat->Nat->Nat->List IV->Prop)->Prop
 ldA:List IV->Nat->(IV->Prop)->Prop
 chr:List UInt8->Nat->(Int->Prop)->Prop
 hget:Heap->Nat->(List IV->Prop)->Prop
 tip:Heap->Nat->(Nat->Prop)->Prop
 call:FuncId->List IV->Heap->(IV->Heap->Prop)->Prop
 ldNV:Nat->List IV->Nat->Prop->(Nat->Nat->Nat->List IV->Prop)->Prop
 ldNH:Nat->List IV->Nat->Prop->(Nat->Nat->Nat->Prop)->Prop
 mlook:Heap->Nat->TypeDesc->IV->(List IV->Prop)->Prop->Prop
 mupd:Heap->Nat->TypeDesc->IV->IV->(List (IV×IV)->Prop)->Prop
 byt:List IV->(List UInt8->Prop)->Prop
 ldM:List IV->Nat->(Nat->Prop)->Prop
 ldP:List IV->Nat->(Nat->Nat->Prop)->Prop
 app:Heap->Nat->Nat->IV->Nat->List IV->(Nat->Nat->Nat->List IV->Heap->Prop)->Prop
 fre:Heap->Nat->Prop->Prop
 ent:Heap->Nat->TypeDesc->IV->IV->(IV->Nat->List (IV×IV)->Prop)->Prop
 mput:Heap->Nat->Int->IV->(List (IV×IV)->Prop)->Prop
 ldNM:List IV->Nat->Prop->(Nat->Prop)->Prop
 ldG:Nat->List IV->Nat->(List IV->Prop)->Prop
def aM(b:Bool)(A B:Prop):Prop:=match b with
 |true=>A
 |false=>B
def aC(b:Bool)(A:Prop):Prop:=match b with
 |true=>A
 |false=>False
def aK(k:IntKind)(cs:List IV)(off:Nat)(K:Int->Prop):Prop:=match cs[off]? with
 |some (.int k' n)=>if k'=k then K n else False
 |_=>False
def iS(cs:List IV)(off:Nat)(K:Bool->Prop):Prop:=match cs[off]? with
 |some (.bool b)=>K b
 |_=>False
def bZ(cs:List IV)(off:Nat)(K:List UInt8->Prop):Prop:=match cs[off]? with
 |some (.str b)=>K b
 |_=>False
def bH(sz:Nat)(cs:List IV)(off:Nat)(K:Option Nat->Nat->Nat->List IV->Prop):Prop:=match cs[off]? with
 |some (.vslice id e len z cs')=>if z=sz then K id e len cs' else False
 |_=>False
def f1S(cs:List IV)(off:Nat)(K:IV->Prop):Prop:=match cs[off]? with
 |some v=>K v
 |none=>False
def a1A(s:List UInt8)(i:Nat)(K:Int->Prop):Prop:=match s[i]? with
 |some b=>K b.toNat
 |none=>False
def aF(h:Heap)(id:Nat)(K:List IV->Prop):Prop:=match h.get id with
 | .cells cs=>K cs
 |_=>False
def dG(h:Heap)(id:Nat)(K:Nat->Prop):Prop:=match h.get id with
 | .tip m=>K m
 |_=>False
def cK(sz:Nat)(cs:List IV)(off:Nat)(A:Prop)(K:Nat->Nat->Nat->List IV->Prop):Prop:=match cs[off]? with
 |some .nilslice=>A
 |some (.vslice (some id) e len z cs')=>if z=sz then K id e len cs' else False
 |_=>False
def cT(sz:Nat)(cs:List IV)(off:Nat)(A:Prop)(K:Nat->Nat->Nat->Prop):Prop:=match cs[off]? with
 |some .nilslice=>A
 |some (.hslice id o len z)=>if z=sz then K id o len else False
 |_=>False
def fV(h:Heap)(id:Nat)(d:TypeDesc)(key:IV)(K:List IV->Prop)(A:Prop):Prop:=match h.get id with
 | .map es=>match fU d key es with
  |some (some v)=>K [v]
  |some none=>A
  |none=>False
 |_=>False
def kS(h:Heap)(id:Nat)(d:TypeDesc)(key v:IV)(K:List (IV×IV)->Prop):Prop:=match h.get id with
 | .map es=>match oK d key v es with
  |some es'=>K es'
  |none=>False
 |_=>False
def g0H(cs:List IV)(K:List UInt8->Prop):Prop:=match lW cs with
 |some b=>K b
 |none=>False
def qY(cs:List IV)(off:Nat)(K:Nat->Prop):Prop:=match cs[off]? with
 |some (.map id)=>K id
 |_=>False
def g0I(cs:List IV)(off:Nat)(K:Nat->Nat->Prop):Prop:=match cs[off]? with
 |some (.ptr id o)=>K id o
 |_=>False
def qT(h:Heap)(sz bytes:Nat)(s:IV)(n:Nat)(xs:List IV)(K:Nat->Nat->Nat->List IV->Heap->Prop):Prop:=match s with
 | .nilslice=>n*bytes<=140737488355328/\K h.next (n*sz) n xs (h.push (.tip (n*sz)))
 | .vslice none 1 len z cs=>(z=sz/\(len+n)*bytes<=140737488355328)/\K h.next ((len+n)*sz) (len+n) (cs++xs) (h.push (.tip ((len+n)*sz)))
 | .vslice (some id) e len z cs=>(z=sz/\(len+n)*bytes<=140737488355328/\h.get id= .tip e)/\K id (e+n*sz) (len+n) (cs++xs) (h.set id (.tip (e+n*sz)))
 |_=>False
def yY(h:Heap)(n:Nat)(A:Prop):Prop:=match h.get n with
 | .free=>A
 |_=>False
def b4N(h:Heap)(id:Nat)(d:TypeDesc)(key z:IV)(K:IV->Nat->List (IV×IV)->Prop):Prop:=match h.get id with
 | .map es=>match a7J d key z es with
  |some r=>K r.1 r.2.1 r.2.2
  |none=>False
 |_=>False
def a1B(n:Nat)(cs:List IV)(off:Nat)(K:List IV->Prop):Prop:=match cs[off]? with
 |some (.agg xs)=>match Nat.beq xs.length n with
  |true=>K xs
  |false=>False
 |_=>False
def a2N(cs:List IV)(off:Nat)(A:Prop)(K:Nat->Prop):Prop:=match cs[off]? with
 |some .nilmap=>A
 |some (.map id)=>K id
 |_=>False
def a0M(h:Heap)(id:Nat)(n:Int)(v:IV)(K:List (IV×IV)->Prop):Prop:=match h.get id with
 | .map es=>(0<=n/\n<es.length)/\K (nN v n.toNat es)
 |_=>False
def aV(C:FuncId->List IV->Heap->(IV->Heap->Prop)->Prop):Sp where
 br:=aM
 need:=aC
 ldI:=aK
 ldB:=iS
 ldS:=bZ
 ldV:=bH
 ldA:=f1S
 chr:=a1A
 hget:=aF
 tip:=dG
 call:=C
 ldNV:=cK
 ldNH:=cT
 mlook:=fV
 mupd:=kS
 byt:=g0H
 ldM:=qY
 ldP:=g0I
 app:=qT
 fre:=yY
 ent:=b4N
 mput:=a0M
 ldNM:=a2N
 ldG:=a1B
structure Inv1 where
 X:Type
 slots:X->List (Nat×TV)
 locs:X->List (Nat×List IV)
 hp:X->Heap
 cond:X->Prop
 meas:X->Nat
 get:GF->Heap->Option X
def b4O:List (Nat×TV)->PT (Option TV)
 | []=> .nil
 | (s,v)::r=>(b4O r).set s (some (some v))
def b4P:List (Nat×List IV)->PT (Option (List IV))
 | []=> .nil
 | (s,v)::r=>(b4P r).set s (some (some v))
def uU(F:GF):List (Nat×TV)->Prop->Prop
 | [],A=>A
 | (s,v)::r,A=>F.tmg s=some v/\uU F r A
def uV(F:GF):List (Nat×List IV)->Prop->Prop
 | [],A=>A
 | (s,v)::r,A=>F.lvg s=some v/\uV F r A
inductive Inv' where
 |one (v:Inv1)
 |ex (v:Inv1)
 |or (a b:Inv')
def Inv'.J:Inv'->GF->Heap->(Nat->Prop)->Prop
 | .one v,F,h,P=>match v.get F h with
  |some x=>uU F (v.slots x) (uV F (v.locs x) (h=v.hp x/\v.cond x/\P (v.meas x)))
  |none=>False
 | .ex v,F,h,P=> ∃x:v.X,uU F (v.slots x) (uV F (v.locs x) (h=v.hp x/\v.cond x/\P (v.meas x)))
 | .or a b,F,h,P=>a.J F h P\/b.J F h P
def Inv'.I:Inv'->(GF->Heap->Nat->Prop)->Prop
 | .one v,K=> ∀(x:v.X)(b:FF),v.cond x->K ⟨b4O (v.slots x),b4P (v.locs x),b⟩ (v.hp x) (v.meas x)
 | .ex v,K=> ∀(x:v.X)(b:FF),v.cond x->K ⟨b4O (v.slots x),b4P (v.locs x),b⟩ (v.hp x) (v.meas x)
 | .or a b,K=>a.I K/\b.I K
section
variable (S:Sp) (E:Env) (f:FuncId)
def ldC(ck:CK)(cs:List IV)(off:Nat)(K:IV->Prop):Prop:=match ck with
 | .int k=>S.ldI k cs off fun n=>K (.int k n)
 | .bool=>S.ldB cs off fun b=>K (.bool b)
 | .str=>S.ldS cs off fun s=>K (.str s)
 | .slc sz=>S.ldV sz cs off fun id e len c=>K (.vslice id e len sz c)
 | .any=>S.ldA cs off K
def c0J:List CK->List IV->Nat->(List IV->Prop)->Prop
 | [],_,_,K=>K []
 |ck::r,cs,off,K=>ldC S ck cs off fun v=>c0J r cs (off+1) fun vs=>K (v::vs)
def ldK(t:TypeId)(cs:List IV)(off:Nat)(K:IV->Prop):Prop:=match gA E.P t with
 |some (false,_)=>ldC S (a9Z E.P t) cs off K
 |some (true,n+1)=>match Nat.beq (uC E.P 8 t).length (n+1)with
  |true=>c0J S (uC E.P 8 t) cs off fun vs=>K (.agg vs)
  |false=>False
 |_=>False
def ldE(t:TypeId)(r:List IV)(K:IV->Prop):Prop:=match gA E.P t with
 |some (true,n+1)=>match Nat.beq (uC E.P 8 t).length (n+1)with
  |true=>S.ldG (n+1) r 0 fun xs=>c0J S (uC E.P 8 t) xs 0 fun vs=>K (.agg vs)
  |false=>ldC S (a9Z E.P t) r 0 K
 |_=>ldC S (a9Z E.P t) r 0 K
def e5H:Nat->List CK
 |0=>[]
 |n+1=> .any::e5H n
def ldW(d:Option Tmp)(t:TypeId)(cs:List IV)(off:Nat)(K:IV->Prop):Prop:=match d with
 |some s=>match E.ld f s with
  |true=>match gA E.P t with
   |some (false,_)=>S.ldA cs off K
   |some (true,n+1)=>c0J S (e5H (n+1)) cs off fun vs=>K (.agg vs)
   |_=>False
  |false=>match E.ln f s with
   |0=>ldK S E t cs off K
   |1=>match gA E.P t,a9Z E.P t with
    |some (false,_),.slc sz=>S.ldNV sz cs off (K .nilslice) fun id e len c=>K (.vslice (some id) e len sz c)
    |_,_=>False
   |3=>match gA E.P t with
    |some (false,_)=>S.ldM cs off fun id=>K (.map id)
    |_=>False
   |4=>match gA E.P t with
    |some (false,_)=>S.ldP cs off fun id o=>K (.ptr id o)
    |_=>False
   |5=>match gA E.P t,a9Z E.P t with
    |some (false,_),.slc sz=>S.ldNH sz cs off False fun id o len=>K (.hslice id o len sz)
    |_,_=>False
   |6=>match gA E.P t with
    |some (false,_)=>S.ldNM cs off (K .nilmap) fun id=>K (.map id)
    |_=>False
   |_=>match gA E.P t,a9Z E.P t with
    |some (false,_),.slc sz=>S.ldNH sz cs off (K .nilslice) fun id o len=>K (.hslice id o len sz)
    |_,_=>False
 |none=>ldK S E t cs off K
def stK(t:TypeId)(cs:List IV)(off:Nat)(v:IV)(K:List IV->Prop):Prop:=match gB E.P t,pP v with
 |some n,true=>match Nat.beq (cellsOf v).length n with
  |true=>S.need (Nat.ble (off+n) cs.length) (K (cs.take off++cellsOf v++cs.drop (off+n)))
  |false=>False
 |_,_=>False
def tH(P:Program):List Field->List IV->List IV->Option Bool
 | [],_,_=>some true
 |f::fs,xs,ys=>
  if f.name == "_" then none else
  match P.underlying f.type,xs[f.offset]?,ys[f.offset]? with
  |some d,some x,some y=>match dO d x y,tH P fs xs ys with
   |some b,some c=>some (b&&c)
   |_,_=>none
  |_,_,_=>none
def c5Q(t:TypeId)(xs ys:List IV):Option Bool:=match E.P.underlying t with
 |some (.struct fs)=>match E.P.stoodInHeld t||E.P.eqGuardType E.P.depth t with
  |true=>none
  |false=>tH E.P fs.toList xs ys
 |_=>none
def f1T(op:BinOp)(c:Bool)(t:TypeId)(a b:IV)(K:IV->Prop):Prop:=match a,b with
 | .int k x,.int k' y=>match op with
  | .quo=>if k=k' then S.need (!(y==0)) (K (.int k (k.wrap (x.tdiv y))))else False
  | .rem=>if k=k' then S.need (!(y==0)) (K (.int k (x.tmod y)))else False
  | .shl=>S.need (decide (0<=y)) (K (.int k (k.wrap (x*2^ (min y.toNat k.bits)))))
  | .shr=>S.need (decide (0<=y)) (K (.int k (x.fdiv (2^ (min y.toNat k.bits)))))
  |op=>match(if k=k' then rE op k x y else none)with
   |some v=>K v
   |none=>False
 | .str x,.str y=>match op with
  | .add=>S.need (Nat.ble (x.length+y.length) 9223372036854775807) (K (.str (x++y)))
  |op=>match a2C op x y with
   |some v=>K v
   |none=>False
 | .agg xs,.agg ys=>match op with
  | .eql=>match c5Q E t xs ys with
   |some b=>K (.bool b)
   |none=>False
  | .neq=>match c5Q E t xs ys with
   |some b=>K (.bool (!b))
   |none=>False
  |_=>False
 |x,y=>match nL E.P op c t x y with
  |some v=>K v
  |none=>False
def d0K(len:Nat)(lo hi:Option (Option TV))(K:Int->Int->Prop):Prop:=
 match(match lo with|none=>some (0:Int)|some x=>asI x),(match hi with|none=>some (len:Int)|some x=>asI x)with
 |some l,some h=>S.need (decide (0<=l) && (decide (l<=h) &&decide (h<=len))) (K l h)
 |_,_=>False
def g0L:FuncId->List IV->Heap->Option (IV×Heap):=fun _ _ _=>none
def a2O(draw:Bool)(o:Oper)(F:GF)(h:Heap)(K:GF->Ef->Prop):Prop:=match dX E f g0L draw o (bC E F.tmg) F.lvg h with
 |some e=>K F e
 |none=>False
def b4Q(c:Operand)(F:GF)(x:Bool):GF:=match c with
 | .tmp t=>F.put (some t) (some (.v (.bool x)))
 |_=>F
def d3X(h:Heap)(sz:Nat)(x:IV)(K:Nat->List IV->Prop):Prop:=match x with
 | .nilslice=>K 0 []
 | .vslice _ _ len z cs=>match Nat.beq z sz with
  |true=>K len cs
  |false=>False
 | .hslice id off len z=>match Nat.beq z sz with
  |true=>S.hget h id fun cs=>S.need (Nat.ble (off+len*sz) cs.length) (K len ((cs.drop off).take (len*sz)))
  |false=>False
 | .str s=>match Nat.beq sz 1 with
  |true=>K s.length (s.map fun b=> .int .u8 b.toNat)
  |false=>False
 |_=>False
def f1U(h:Heap)(way sz bytes:Nat)(s x:IV)(K:IV->Heap->Prop):Prop:=d3X S h sz x fun n xs=>
 S.br (Nat.beq n 0)
  (match s with
   | .nilslice=>K .nilslice h
   | .vslice id e len z cs=>match Nat.beq z sz with
    |true=>K (.vslice id e len z cs) h
    |false=>False
   | .hslice id off len z=>match Nat.beq z sz with
    |true=>K (.hslice id off len z) h
    |false=>False
   |_=>False)
  (match s with
   | .nilslice=>S.need (Nat.ble (n*bytes) 140737488355328) (K (newRow h way n sz xs).1 (newRow h way n sz xs).2)
   | .vslice none 1 len z cs=>match Nat.beq z sz with
    |true=>S.need (Nat.ble ((len+n)*bytes) 140737488355328) (K (newRow h way (len+n) sz (cs++xs)).1 (newRow h way (len+n) sz (cs++xs)).2)
    |false=>False
   | .vslice (some id) e len z cs=>match Nat.beq z sz with
    |true=>S.tip h id fun m=>S.need (Nat.beq m e&&Nat.ble ((len+n)*bytes) 140737488355328) (K (.vslice (some id) (e+n*sz) (len+n) sz (cs++xs)) (h.set id (.tip (e+n*sz))))
    |false=>False
   | .hslice id off len z=>match Nat.beq z sz with
    |true=>S.hget h id fun cs=>S.need (Nat.beq off 0&& (Nat.ble (len*sz) cs.length&&Nat.ble ((len+n)*bytes) 140737488355328)) (K (.hslice h.next 0 (len+n) sz) ((h.set id .dead).push (.cells (cs.take (len*sz)++xs))))
    |false=>False
   |_=>False)
def d3Y(h:Heap)(way sz bytes:Nat)(s x:IV)(K:IV->Heap->Prop):Prop:=match Nat.beq way 0 with
 |true=>d3X S h sz x fun n xs=>match n with
  |0=>False
  |n+1=>S.app h sz bytes s (n+1) xs fun id e len cs h2=>K (.vslice (some id) e len sz cs) h2
 |false=>False
def a2P(g:FuncId)(xs:List IV):List IV:=match E.iso g with
 |true=>match E.P.funcs[g]? with
  |some fn=>hY E.P fn.params.toList xs
  |none=>xs
 |false=>match E.nr g with
  |true=>match E.P.funcs[g]? with
   |some fn=>hY E.P fn.params.toList xs
   |none=>xs
  |false=>xs
def opW(draw:Bool)(o:Oper)(F:GF)(h:Heap)(K:GF->Ef->Prop):Prop:=match o.op with
 | .pick c a b=>match bC E F.tmg c with
  |some (.v (.bool x))=>S.br x
   (match bC E F.tmg a with|some v=>K (b4Q c F true) ⟨.p,some v,none,false,h⟩|none=>False)
   (match bC E F.tmg b with|some v=>K (b4Q c F false) ⟨.p,some v,none,false,h⟩|none=>False)
  |_=>False
 | .binOp op t x y _=>match bM (bC E F.tmg x),bM (bC E F.tmg y)with
  |some a,some b=>f1T S E op (kL x||kL y) t a b fun v=>K F ⟨.p,some (.v v),none,false,h⟩
  |_,_=>False
 | .load t a=>match bC E F.tmg a with
  |some (.l s off)=>match F.lvg s with
   |some cs=>ldW S E f o.dst t cs off fun v=>K F ⟨.l,some (.v v),none,false,h⟩
   |none=>False
  |some (.v (.vref cs off))=>ldW S E f o.dst t cs off fun v=>K F ⟨.p,some (.v v),none,false,h⟩
  |some (.v (.ptr id off))=>S.hget h id fun cs=>ldW S E f o.dst t cs off fun v=>K F ⟨.r,some (.v v),none,false,h⟩
  |_=>False
 | .store t a x=>match bC E F.tmg a,bM (bC E F.tmg x)with
  |some (.l s off),some v=>match F.lvg s with
   |some cs=>stK S E t cs off v fun cs'=>K F ⟨.s,none,some (s,cs'),false,h⟩
   |none=>False
  |some (.v (.ptr id off)),some v=>S.hget h id fun cs=>stK S E t cs off v fun cs'=>K F ⟨.e,none,none,false,h.set id (.cells cs')⟩
  |_,_=>False
 | .indexAddr t x ix=>match asI (bC E F.tmg ix),E.P.underlying t with
  |some i,some (.array n e)=>match gB E.P e,bC E F.tmg x with
   |some sz,some a=>S.need (decide (0<=i) &&decide (i<n)) (match mJ (i.toNat*sz) a with|some v=>K F ⟨.p,some v,none,false,h⟩|none=>False)
   |_,_=>False
  |some i,some (.slice e)=>match gB E.P e,bM (bC E F.tmg x)with
   |some sz,some (.vslice _ _ len z cs)=>match Nat.beq z sz with
    |true=>S.need (decide (0<=i) &&decide (i<len)) (K F ⟨.p,some (.v (.vref cs (i.toNat*sz))),none,false,h⟩)
    |false=>False
   |some sz,some (.hslice id off len z)=>match Nat.beq z sz with
    |true=>S.need (decide (0<=i) &&decide (i<len)) (K F ⟨.p,some (.v (.ptr id (off+i.toNat*sz))),none,false,h⟩)
    |false=>False
   |_,_=>False
  |_,_=>False
 | .index t x ix=>match asI (bC E F.tmg ix),E.P.underlying t,bM (bC E F.tmg x)with
  |some i,some (.array n e),some (.agg cs)=>match gB E.P e with
   |some sz=>S.need (decide (0<=i) &&decide (i<n)) (ldK S E e cs (i.toNat*sz) fun v=>K F ⟨.p,some (.v v),none,false,h⟩)
   |none=>False
  |some i,some .string,some (.str s)=>S.need (decide (0<=i)) (S.chr s i.toNat fun b=>K F ⟨.p,some (.v (.int .u8 b)),none,false,h⟩)
  |_,_,_=>False
 | .slice t x lo hi mx=>match mx,E.P.underlying t,bM (bC E F.tmg x)with
  |none,some .string,some (.str s)=>d0K S s.length (lo.map (bC E F.tmg)) (hi.map (bC E F.tmg)) fun l h'=>K F ⟨.p,some (.v (.str ((s.drop l.toNat).take (h'.toNat-l.toNat)))),none,false,h⟩
  |none,some (.slice e),some (.vslice id en len z cs)=>match gB E.P e with
   |some sz=>match Nat.beq z sz with
    |true=>d0K S len (lo.map (bC E F.tmg)) (hi.map (bC E F.tmg)) fun l h'=>
     K F ⟨.p,some (.v (.vslice id (en- (len-h'.toNat)*sz) (h'.toNat-l.toNat) sz ((cs.drop (l.toNat*sz)).take ((h'.toNat-l.toNat)*sz)))),none,false,h⟩
    |false=>False
   |none=>False
  |none,some (.slice e),some (.hslice id off len z)=>match gB E.P e with
   |some sz=>match Nat.beq z sz with
    |true=>d0K S len (lo.map (bC E F.tmg)) (hi.map (bC E F.tmg)) fun l h'=>K F ⟨.p,some (.v (.hslice id (off+l.toNat*sz) (h'.toNat-l.toNat) sz)),none,false,h⟩
    |false=>False
   |none=>False
  |none,some (.array n e),some (.ptr id off)=>match gB E.P e with
   |some (sz+1)=>S.hget h id fun cs=>S.need (Nat.ble (off+n*(sz+1)) cs.length) (d0K S n (lo.map (bC E F.tmg)) (hi.map (bC E F.tmg)) fun l h'=>
    K F ⟨.r,some (.v (.hslice id (off+l.toNat*(sz+1)) (h'.toNat-l.toNat) (sz+1))),none,false,h⟩)
   |_=>False
  |_,_,_=>a2O E f draw o F h K
 | .makeSlice t l c=>match E.P.underlying t,o.dst,asI (bC E F.tmg l),asI (bC E F.tmg c)with
  |some (.slice e),some d,some l,some c=>match gB E.P e,iH E.P e,cV E.P e with
   |some (sz+1),some bytes,some z=>match Nat.beq (cellsOf z).length (sz+1)with
    |true=>S.need (decide (0<=l) && (decide (l<=c) && (decide (c<=9223372036854775807) &&decide (bytes*c<=140737488355328))))
     (K F ⟨.e,some (.v (newRow h (1-E.A f d) l.toNat (sz+1) (fF l.toNat (cellsOf z))).1),none,false,(newRow h (1-E.A f d) l.toNat (sz+1) (fF l.toNat (cellsOf z))).2⟩)
    |false=>False
   |_,_,_=>False
  |_,_,_,_=>False
 | .call {callee:= .builtin .append,args,argTypes } =>match argTypes.toList,args.toList with
  | [t,u],[sx,xx]=>match bM (bC E F.tmg sx),bM (bC E F.tmg xx),E.P.underlying t,E.P.underlying u,o.dst with
   |some s,some x,some (.slice e),some du,some d=>match gB E.P e,iH E.P e,cV E.P e with
    |some (sz+1),some (bytes+1),some z=>match Nat.beq (cellsOf z).length (sz+1) &&lX du with
     |true=>match Nat.beq (E.ln f d) 9 with
      |true=>d3Y S h (E.A f d) (sz+1) (bytes+1) s x fun v h'=>K F ⟨.e,some (.v v),none,false,h'⟩
      |false=>f1U S h (E.A f d) (sz+1) (bytes+1) s x fun v h'=>K F ⟨.e,some (.v v),none,false,h'⟩
     |false=>False
    |_,_,_=>False
   |_,_,_,_,_=>False
  |_,_=>False
 | .call {callee:= .builtin .copy,args,argTypes } =>match argTypes.toList,args.toList with
  |t::_,[sx,xx]=>match bM (bC E F.tmg sx),bM (bC E F.tmg xx),E.P.underlying t with
   |some (.hslice id off len z),some x,some (.slice e)=>match gB E.P e with
    |some (sz+1)=>match Nat.beq z (sz+1)with
     |true=>d3X S h (sz+1) x fun n xs=>S.hget h id fun cs=>S.need (Nat.ble (off+len*z) cs.length)
      (K F ⟨.e,some (.v (.int .i64 ((min n len:Nat):Int))),none,false,h.set id (.cells (spl cs off (xs.take (min n len*(sz+1)))))⟩)
     |false=>False
    |_=>False
   |_,_,_=>False
  |_,_=>False
 | .call {callee:= .value x,args,.. } =>match bC E F.tmg x,oA (args.toList.map (bC E F.tmg))with
  |some (.v (.func (.func g) a b)),some xs=>S.call g (a2P E g (a++xs++b)) h fun v h'=>K F ⟨pS (E.iso g),some (.v v),none,false,h'⟩
  |_,_=>False
 | .lookup t x k ok=>match E.P.underlying t,bM (bC E F.tmg x),bM (bC E F.tmg k)with
  |some (.map kt et),some (.map id),some key=>match E.P.underlying kt,cV E.P et with
   |some d,some z=>match nM d key with
    |true=>S.mlook h id d key (fun r=>ldE S E et r fun v=>K F ⟨.r,some (.v (match ok with|true=> .tuple [v,.bool true]|false=>v)),none,false,h⟩)
     (K F ⟨.r,some (.v (match ok with|true=> .tuple [z,.bool false]|false=>z)),none,false,h⟩)
    |false=>False
   |_,_=>False
  |_,_,_=>a2O E f draw o F h K
 | .mapUpdate t m k x=>match E.P.underlying t,bM (bC E F.tmg m),bM (bC E F.tmg k),bM (bC E F.tmg x)with
  |some (.map kt _),some (.map id),some key,some v=>match E.P.underlying kt with
   |some d=>match nM d key with
    |true=>S.mupd h id d key v fun es=>K F ⟨.e,none,none,false,h.set id (.map es)⟩
    |false=>False
   |_=>False
  |_,_,_,_=>False
 | .mapEntry t m k=>match E.P.underlying t,bM (bC E F.tmg m),bM (bC E F.tmg k)with
  |some (.map kt et),some (.map id),some key=>match E.P.underlying kt,cV E.P et with
   |some d,some z=>match nM d key with
    |true=>S.ent h id d key z fun v n es=>K F ⟨.e,some (.v (.tuple [v,.int .i64 n])),none,false,h.set id (.map es)⟩
    |false=>False
   |_,_=>False
  |_,_,_=>False
 | .entryStore _ m s x=>match bM (bC E F.tmg m),bM (bC E F.tmg s),bM (bC E F.tmg x)with
  |some (.map id),some (.int _ n),some v=>S.mput h id n v fun es=>K F ⟨.e,none,none,false,h.set id (.map es)⟩
  |_,_,_=>False
 | .convert s d x=>match E.P.underlying s,E.P.underlying d,bM (bC E F.tmg x)with
  |some (.slice e),some .string,some (.vslice _ _ _ 1 cs)=>match E.P.underlying e with
   |some (.int .u8)=>S.byt cs fun b=>K F ⟨.p,some (.v (.str b)),none,false,h⟩
   |_=>False
  |_,_,_=>a2O E f draw o F h K
 |_=>a2O E f draw o F h K
def opA(n:Nat)(o:Oper)(F:GF)(h:Heap)(K:GF->Ef->Prop):Prop:=match o.op with
 | .makeSlice t l c=>match E.P.underlying t,o.dst,asI (bC E F.tmg l),asI (bC E F.tmg c)with
  |some (.slice e),some d,some l,some c=>match gB E.P e,iH E.P e,cV E.P e with
   |some (sz+1),some bytes,some z=>match Nat.beq (cellsOf z).length (sz+1)with
    |true=>S.need (decide (0<=l) && (decide (l<=c) && (decide (c<=9223372036854775807) &&decide (bytes*c<=140737488355328))))
     (match Nat.beq (1-E.A f d) 0 with
      |true=>S.need (Nat.ble 1 l.toNat) (S.fre h n (K F ⟨.a,some (.v (uM n (1-E.A f d) l.toNat (sz+1) (fF l.toNat (cellsOf z)))),none,false,h.set n (pR (1-E.A f d) l.toNat (sz+1) (fF l.toNat (cellsOf z)))⟩))
      |false=>S.fre h n (K F ⟨.a,some (.v (uM n (1-E.A f d) l.toNat (sz+1) (fF l.toNat (cellsOf z)))),none,false,h.set n (pR (1-E.A f d) l.toNat (sz+1) (fF l.toNat (cellsOf z)))⟩))
    |false=>False
   |_,_,_=>False
  |_,_,_,_=>False
 | .call {callee:= .builtin .append,args,argTypes } =>match argTypes.toList,args.toList with
  | [t,u],[sx,xx]=>match bM (bC E F.tmg sx),bM (bC E F.tmg xx),E.P.underlying t,E.P.underlying u,o.dst with
   |some .nilslice,some x,some (.slice e),some du,some d=>match gB E.P e,iH E.P e,cV E.P e with
    |some (sz+1),some (bytes+1),some z=>match Nat.beq (cellsOf z).length (sz+1) &&lX du with
     |true=>match e4H (sz+1) x with
      |some (k,xs)=>S.br (Nat.beq k 0) (K F ⟨.p,some (.v .nilslice),none,false,h⟩)
       (S.need (Nat.ble (k*(bytes+1)) 140737488355328) (S.fre h n (K F ⟨.a,some (.v (uM n (E.A f d) k (sz+1) xs)),none,false,h.set n (pR (E.A f d) k (sz+1) xs)⟩)))
      |none=>False
     |false=>False
    |_,_,_=>False
   |_,_,_,_,_=>False
  |_,_=>False
 |_=>match aSh E f o (bC E F.tmg) n with
  |some (v,none)=>K F ⟨.p,v,none,false,h⟩
  |some (v,some x)=>S.fre h n (K F ⟨.a,v,none,false,h.set n x⟩)
  |none=>False
def c0K(ops:List Oper)(o:Oper)(F:GF)(run skip:GF->Prop):Prop:=match o.guard with
 |none=>run F
 |some (j,b)=>match(ops[j]?).bind (·.dst)with
  |some d=>match F.tmg d with
   |some (.v (.bool x))=>S.br x ((match b with|true=>run|false=>skip) (F.put (some d) (some (.v (.bool true))))) ((match b with|true=>skip|false=>run) (F.put (some d) (some (.v (.bool false)))))
   |some .u=>skip F
   |_=>False
  |none=>False
def b4R(b:Nat)(h:Heap)(A:Prop):Ps->Prop
 | []=>A
 |q::r=>match b.testBit q.1 with
  |true=>b4R b h A r
  |false=>q.2 h/\b4R b h A r
def rdK(rs:Nat->Option Nat)(m:Met)(b:Nat)(id:Option Nat)(A:Prop):List Nat->Prop
 | []=>A
 |j::r=>match b.testBit j||!(m.a.testBit j)with
  |true=>rdK rs m b id A r
  |false=>match rs j,id with
   |some n,some k=>S.need (!(Nat.beq n k)) (rdK rs m b id A r)
   |_,_=>rdK rs m b id A r
def g0M(al:List Nat)(rs:Nat->Option Nat)(m:Met)(b:Nat)(id:Option Nat)(c:Cls)(A:Prop):Prop:=match c with
 | .r=>rdK S rs m b id A al
 |_=>A
def f1V(al:List Nat)(rs:Nat->Option Nat)(draw:Bool)(m:Met)(ps:Ps)(b:Nat)(id:Option Nat)(e:Ef)(A:Prop):Prop:=match draw with
 |false=>A
 |true=>match jE (m.chk e.c) b with
  |true=>g0M S al rs m b id e.c A
  |false=>match e.c with
   | .e=>match jE (m.e|||m.a) b with
    |true=>b4R b e.h A ps
    |false=>False
   |_=>False
def d0L(ops:List Oper)(draw:Bool)(bef:Nat->Nat)(al:List Nat)(rs:Nat->Option Nat):List (Oper×Nat)->Met->Ps->GF->Heap->(GF->Heap->Prop)->Prop
 | [],_,_,F,h,K=>K F h
 | (o,i)::r,m,ps,F,h,K=>c0K S ops o F
  (fun F1=>(match rs i with
   |none=>opW S E f draw o F1 h
   |some n=>opA S E f n o F1 h) fun F2 e=>f1V S al rs draw m ps (bef i) (jO o (bC E F1.tmg)) e (d0L ops draw bef al rs r (m.add e.c i) (a7Z E o (bC E F.tmg) e i ps) (F2.app o.dst e) e.h K))
  (fun F=>d0L ops draw bef al rs r m ps (F.put o.dst (some .u)) h K)
def eH:Code->Nat
 | .region id _ _=>id+1
 | .seq a b=>match eH a with
  |0=>eH b
  |n=>n
 | .cond _ a b=>match eH a with
  |0=>eH b
  |n=>n
 | .block _ c=>eH c
 | .loop c=>eH c
 | .scope c=>eH c
 |_=>0
def dUn(body:GF->Heap->(Ex->GF->Heap->Prop)->Prop):Nat->GF->Heap->(Ex->GF->Heap->Prop)->Prop
 |0,_,_,_=>False
 |n+1,F,h,K=>body F h fun x F h=>match x with
  | .normal=>dUn body n F h K
  |x=>K x F h
variable (U:Nat->Nat) (IL IC:Nat->Option Inv')
def dC:Code->GF->Heap->(Ex->GF->Heap->Prop)->Prop
 | .skip,F,h,K=>K .normal F h
 | .region id ops draw,F,h,K=>match E.an f id with
  | []=>d0L S E f ops.toList draw (a2D ops) [] (fun _=>none) (yM (E.od f id) draw ops.toList) {} [] (F.start E f ops.toList draw) h fun F h=>K .normal F h
  |j::r=>d0L S E f ops.toList draw (a2D ops) (j::r) (b9R h.next (j::r)) (yM (E.od f id) draw ops.toList) {} [] (F.start E f ops.toList draw) (h.reserve (r.length+1)) fun F h=>K .normal F h
 | .seq a b,F,h,K=>match IC (eH b)with
  |none=>match IC (Nat.add (eH b) 1000000)with
   |none=>dC a F h fun x F h=>match x with
    | .normal=>dC b F h K
    |x=>K x F h
   |some v=> ∃M:Nat,(dC a F h fun x F h=>match x with
    | .normal=>v.J F h fun m=>m<=M
    |x=>K x F h)/\v.I fun G h m=>m<=M->dC b G h K
  |some v=>(dC a F h fun x F h=>match x with
   | .normal=>v.J F h fun _=>True
   |x=>K x F h)/\v.I fun G h _=>dC b G h K
 | .cond c a b,F,h,K=>match bC E F.tmg c with
  |some (.v (.bool x))=>S.br x (dC a (b4Q c F true) h K) (dC b (b4Q c F false) h K)
  |_=>False
 | .block id c,F,h,K=>dC c F h fun x F h=>match x with
  | .exit id'=>match Nat.beq id' id with
   |true=>K .normal F h
   |false=>K (.exit id') F h
  |x=>K x F h
 | .loop c,F,h,K=>match U (eH c)with
  |n+1=>dUn (dC c) (n+1) F h K
  |0=>match IL (eH c)with
   |some v=>(v.J F h fun _=>True)/\v.I fun G h m=>dC c G h fun x G h=>match x with
    | .normal=>v.J G h fun m'=>m'<m
    |x=>K x G h
   |none=>match IL (Nat.add (eH c) 1000000)with
    |some v=> ∃M:Nat,(v.J F h fun m=>m<=M)/\v.I fun G h m=>m<=M->dC c G h fun x G h=>match x with
     | .normal=>v.J G h fun m'=>m'<m
     |x=>K x G h
    |none=>False
 | .exit id,F,h,K=>K (.exit id) F h
 | .scope c,F,h,K=>dC c F h K
 | .ret,F,h,K=>K .ret F h
 |_,_,_,_=>False
def e5I(id:Nat)(K:Ex->GF->Heap->Prop)(x:Ex)(F:GF)(h:Heap):Prop:=match x with
 | .exit id'=>match Nat.beq id' id with
  |true=>K .normal F h
  |false=>K (.exit id') F h
 |x=>K x F h
def c0L:Code->GF->Heap->(Ex->GF->Heap->Prop)->Prop
 | .seq a b,F,h,K=>match IC (eH b)with
  |none=>dC S E f U IL IC a F h fun x F h=>match x with
   | .normal=>c0L b F h K
   |x=>K x F h
  |some v=>dC S E f U IL IC a F h fun x F h=>match x with
   | .normal=>v.J F h fun _=>True
   |x=>K x F h
 | .block id c,F,h,K=>c0L c F h (e5I id K)
 | .scope c,F,h,K=>c0L c F h K
 |c,F,h,K=>dC S E f U IL IC c F h K
def a2Q:Code->(Ex->GF->Heap->Prop)->Prop
 | .seq _ b,K=>match IC (eH b)with
  |none=>a2Q b K
  |some v=>(v.I fun G h _=>c0L S E f U IL IC b G h K)/\a2Q b K
 | .block id c,K=>a2Q c (e5I id K)
 | .scope c,K=>a2Q c K
 |_,_=>True
def d3Z:Nat:=99999999
def f1W(F:GF)(h:Heap)(K:IV->Prop):ResultVar->Prop
 | .tmp t=>match bM (F.tmg t)with
  |some v=>K v
  |none=>False
 | .cell a t=>match F.tmg a with
  |some (.l s off)=>match F.lvg s with
   |some cs=>ldW S E f (some a) t cs off K
   |none=>False
  |some (.v (.ptr id off))=>S.hget h id fun cs=>ldW S E f (some a) t cs off K
  |_=>False
def a2R(F:GF)(h:Heap):List ResultVar->(List IV->Prop)->Prop
 | [],K=>K []
 |r::rs,K=>f1W S E f F h (fun v=>a2R F h rs fun vs=>K (v::vs)) r
def b0M:List IV->Nat->PT (Option TV)->PT (Option TV)
 | [],_,t=>t
 |v::r,i,t=>b0M r (i+1) (t.set i (some (some (.v v))))
def b0N(args:List IV):GF:=⟨b0M args 0 .nil,.nil,FF.none⟩
def c5R(h:Heap)(v:IV)(K:IV->Heap->Prop):Prop:=match v with
 | .hslice id off len sz=>S.hget h id fun cs=>S.need (Nat.ble 1 sz&&Nat.ble (off+len*sz) cs.length) (K (.vslice none 0 len sz ((cs.drop off).take (len*sz))) (h.set id .dead))
 |v=>K v h
def b4S(g:Heap->IV->(IV->Heap->Prop)->Prop):List IV->Heap->(List IV->Heap->Prop)->Prop
 | [],h,K=>K [] h
 |v::r,h,K=>g h v fun v' h'=>b4S g r h' fun r' h''=>K (v'::r') h''
def d4A(h:Heap)(v:IV)(K:IV->Heap->Prop):Prop:=match v with
 | .agg cs=>b4S (c5R S) cs h fun cs' h'=>K (.agg cs') h'
 |v=>c5R S h v K
def b0O(vs:List IV)(h:Heap)(K:List IV->Prop):Prop:=match E.fz f with
 |true=>b4S (d4A S) vs h fun vs' _=>K vs'
 |false=>K vs
def c5S(rs:List ResultVar)(c:Code)(args:List IV)(h:Heap)(K:List IV->Heap->Prop):Prop:=
 match IC d3Z with
 |none=>dC S E f U IL IC c (b0N args) h fun x F h'=>match x with
  | .exit _=>False
  |_=>a2R S E f F h' rs fun vs=>K vs h'
 |some _=>(c0L S E f U IL IC c (b0N args) h fun x F h'=>match x with
  | .exit _=>False
  |_=>a2R S E f F h' rs fun vs=>K vs h')/\a2Q S E f U IL IC c fun x F h'=>match x with
  | .exit _=>False
  |_=>a2R S E f F h' rs fun vs=>K vs h'
def dF(args:List IV)(h:Heap)(Q:IV->Heap->Prop):Prop:=match E.P.funcs[f]? with
 |some fn=>match fn.body with
  |some c=>match E.iso f with
   |false=>c5S S E f U IL IC fn.results.toList c (yN E f fn.params.toList args) h fun vs h'=>match E.fz f with
    |true=>Q (jG E f (eZ (yN E f fn.resultTypes.toList vs)) h').1 (jG E f (eZ (yN E f fn.resultTypes.toList vs)) h').2
    |false=>Q (eZ (yN E f fn.resultTypes.toList vs)) h'
   |true=>S.need (aN (hY E.P fn.params.toList args)) (c5S S E f U IL IC fn.results.toList c (hY E.P fn.params.toList args) Heap.empty fun vs h'=>
    b0O S E f vs h' fun ws=>S.need (aN (hY E.P fn.resultTypes.toList ws)) (Q (eZ (hY E.P fn.resultTypes.toList ws)) h))
  |none=>False
 |none=>False
end
end Go.Pv
end
end
