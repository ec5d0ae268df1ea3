/-
  Texts of this proof, one after the other.
  Conditions: none.
-/
import Derived.Test.YtkonebkblgemkaaGreatX4
set_option linter.unusedVariables false
set_option linter.unusedSimpArgs false
set_option maxRecDepth 100000
set_option maxHeartbeats 4000000
noncomputable section
section
namespace Go.Pv
open Go.ChangeShapes Go.RowKit
def M0(W:World):Meta where
 nid:=0
 loc:=fun _=>none
 tip:=fun _=>0
 cur:=fun _=>(0,0)
 im:=fun b o=>W.cell? ⟨b,o,none⟩
 bsz:=fun b=>match W.heap[b]? with|some (.cells c _ _)=>some c.size|_=>none
theorem g5H(W:World):Inv (M0 W) Heap.empty W where
 nid:=rfl
 fresh:=fun id _=>by simp [Heap.empty,Heap.get,PT.get]
 freshl:=fun _ _=>rfl
 cells:=fun id cs e=>by simp [Heap.empty,Heap.get,PT.get]at e
 tips:=fun id n e=>by simp [Heap.empty,Heap.get,PT.get]at e
 maps:=fun id i e=>by simp [Heap.empty,Heap.get,PT.get]at e
 im:=fun b o v e=>e
 bsz:=fun b n e=>by
  simp only [M0]at e;split at e
  ·rename_i h;exact cL h
  ·simp at e
 one:=fun id g b e _=>by simp [Wb,Heap.empty,Heap.get,PT.get]at e
 resv:=fun id e=>by simp [Heap.empty,Heap.get,PT.get]at e
theorem d0R{E:Env}(l:E.P.follows .mixedOrders=true)(m:yX E.P=true){N:Nat}{f:FuncId}{xs:List IV}{v:IV}{h':Heap}(i:jH E N f xs Heap.empty=some (v,h'))
  (W:World) {rs:List Value} (hG:GOK E (M0 W)) (hv:cW (M0 W) xs rs):
  Calls E.P f rs.toArray W fun e g=> ∃r M',e= .returned r/\VR M' v r/\Below W.heap.size W g:=by
 refine((b4L l m N f xs Heap.empty v h' i).2 (M0 W) W rs (g5H W) hG hv).mono ?_;rintro e g ⟨r,M',h1,h2,h3,h4⟩;exact⟨r,M',h1,h2,h4.os,h4.tape,h4.output,h4.size,fun k j=>(h4.keep k j (by rintro⟨id,e⟩;simp [Wb,Heap.empty,Heap.get,PT.get]at e)).1⟩
theorem d4E{E:Env}(j:E.P.follows .mixedOrders=true)(l:yX E.P=true){N:Nat}{f:FuncId}{xs:List IV}{h':Heap}(i:jH E N f xs Heap.empty=some (.bool true,h'))
  (W:World) {rs:List Value} (hG:GOK E (M0 W)) (hv:cW (M0 W) xs rs):
  Calls E.P f rs.toArray W fun e g=>e= .returned (.bool true)/\Below W.heap.size W g:=by
 refine(d0R j l i W hG hv).mono ?_;rintro e g ⟨r,M',h1,h2,h3⟩
 cases h2
 exact⟨h1,h3⟩
section
variable {H:Type} {enc:TypeId×Value->H} {P:Program}
theorem uH(l:laidOutB P=true){W m:World}(j:Below W.heap.size W m)(sp:Nat->Bool):
  ∀{ts:List TypeId}{vs:List Value}{i:List (DataW H)}{ps:List MemPlace},ts.all (fun t=>P.readableRec t&&decide (t<P.types.size))=true->DataW.TrodAll enc P W 0 (fun _=>true) true ts vs i ps->
   (∀p∈ps,p.block<W.heap.size)->(∀p∈ps,sp p.block=true)->DataW.TrodAll enc P m 0 sp true ts vs i ps
 | [],vs,i,ps,_,h,_,_=>by
  obtain⟨rfl,rfl,rfl⟩:=trodAll_nil h;exact trodAll_mk0
 |t::ts,vs,i,ps,ht,h,hlt,hsp=>by
  obtain⟨v,u,d,r,p,q,rfl,rfl,rfl,h1,h2⟩:=trodAll_cons h;simp only [h5T,h0Y,decide_eq_true_eq]at ht;exact⟨p,q,WideElems.Trod_stays l ht.1.1 ht.1.2 h1 (fun x g=>j.same (hlt x (by simp [g]))) (fun x g=>hsp x (by simp [g])),
   uH l j sp (by simpa using ht.2) h2 (fun x g=>hlt x (by simp [g])) (fun x g=>hsp x (by simp [g])),rfl⟩
theorem a6T{f:Func}{s:ChangeSpec}{apart fresh i u:Bool}{W A:World}{l:Array Value}{r G:List (DataW H)}{g:List MemPlace}{tb:TypeId}
  (hl:laidOutB P=true) (hrd:f.params.toList.all (fun t=>P.readableRec t&&decide (t<P.types.size))=true) (hrt:f.resultTypes= #[tb]) (hub:P.underlying tb=some .bool)
  (hW:DataW.Whole enc P f.params.toList s.vars apart W l.toList r G g) (hvars:s.vars=[]) (hb:Below W.heap.size W A)
  (hres:(s.fn H (r++G)).results=[.lit (.bool true)]) (hargs:(s.fn H (r++G)).args=r) (hvs:(s.fn H (r++G)).vars=[]):
  s.post enc P f apart fresh i u W l (.bool true) A:=by
 have j: ∀p∈g,p.block<W.heap.size:=fun p m=>hW.lt p m
 have L:=hW;obtain⟨p,q,Z,V,D,Y,X⟩:=L;rw [hvars]at V;obtain⟨rfl,rfl⟩:=trodVars_none V;rw [h3V]at D;subst D;have r1: ∀(b:Nat)(sp:Nat->Bool)(hd:Bool),DataW.TrodAll enc P A b sp hd f.resultTypes.toList ((Value.bool true).resultList f.resultTypes.size) (s.fn H (r++ [])).results []:=by
  intro b sp hd;rw [hres,hrt];exact trodAll_mk1 (shut_bool hub true)
 have O: ∀sp:Nat->Bool,(∀p∈g,sp p.block=true)->DataW.TrodAll enc P A 0 sp true f.params.toList l.toList (s.fn H (r++ [])).args g:=by
  intro sp K;rw [hargs];exact uH hl hb sp hrd Z j K
 have T: ∀sp:Nat->Bool,DataW.TrodVars enc P A sp s.vars (s.fn H (r++ [])).vars []:=by
  intro sp;rw [hvs,hvars];rfl
 refine⟨r,[],g,[],g,[],hW,r1 _ _ _,O _ (fun p m=>by simpa using j p m),T _,World.keptBut_mono (fun p m=>⟨m,by simp [m]⟩) (hb.frame (· ∈g)),fun _=>⟨ok_one hrt rfl (okWide_bool_mk hub true),_,_,([]++g)++ [],
  ⟨[]++g,[],trodAll_append (O _ (fun _ _=>rfl)) (r1 _ _ _),T _,rfl,?_,?_⟩,?_⟩⟩
 ·intro b y m;have z:MemPlace.cell b y∈g:=by simpa using m
  rw [hb.frozen (p:=⟨b,y,none⟩) (j _ z)];exact Y b y z
 ·intro ha;simpa using X ha
 ·intro p m _;simpa using m
end
end Go.Pv
end
section
namespace Go.Pv
section
variable {H:Type}
def dl(g:DataW H->Option (List IV)):List (DataW H)->Option (List IV)
 | []=>some []
 |d::r=>match g d,dl g r with
  |some x,some y=>some (x++y)
  |_,_=>none
def dfs(P:Program)(g:TypeId->DataW H->Option (List IV)):Nat->List Field->List (DataW H)->Option (List IV)
 |off,[],[]=>some []
 |off,f::fs,d::r=>if f.offset=off then match g f.type d,dfs P g (off+P.cellsOf f.type) fs r with
   |some x,some y=>if x.length=P.cellsOf f.type then some (x++y)else none
   |_,_=>none
  else none
 |_,_,_=>none
def eP(P:Program):Nat->TypeId->DataW H->Option (List IV)
 |0,_,_=>none
 |n+1,t,d=>
  match P.underlying t,d with
  |some .bool,.lit (.bool b)=>some [.bool b]
  |some (.int _),.lit (.int k z)=>some [.int k z]
  |some .string,.lit (.string l)=>some [.str l]
  |some (.pointer _),.nil=>some [.nilptr]
  |some (.slice e),.nil=>some [.vslice none 0 0 (P.cellsOf e) []]
  |some (.map ..),.nil=>some [.nilmap]
  |some (.slice e),.slice elems _=>match dl (eP P n e) elems with
   |some l=>if 0<P.cellsOf e/\l.length=elems.length*P.cellsOf e then some [.vslice none 0 elems.length (P.cellsOf e) l]else none
   |none=>none
  |some (.struct fs),.agg ds=>match dfs P (eP P n) 0 fs.toList ds with
   |some l=>if l.length=P.cellsOf t then some l else none
   |none=>none
  |some (.array m e),.agg ds=>match dl (eP P n e) ds with
   |some l=>if l.length=P.cellsOf t/\l.length=m*P.cellsOf e/\ds.length=m/\0<P.cellsOf e then some l else none
   |none=>none
  |_,_=>none
end
theorem qB{M:Meta}{x:IV}{r:Value}(h:VR M x r)(g:isCell x=true):eB M [x] [r]:=eB.cons h g (eB.nil M)
section
variable {H:Type} {enc:TypeId×Value->H} {P:Program} {W:World} {sp:Nat->Bool} {hd:Bool}
theorem mS{α β:Type}{f:α->Option β}{x:α}{l:List α}{r:List β}(h:(x::l).mapM f=some r): ∃b g,f x=some b/\l.mapM f=some g/\r=b::g:=by
 simp only [h8M,Option.bind_eq_bind,h2W,Option.pure_def,h0V]at h;obtain⟨b,j,g,i,rfl⟩:=h;exact⟨b,g,j,i,rfl⟩
theorem oS{α β:Type}{f:α->Option β}{r:List β}(h:([]:List α).mapM f=some r):r=[]:=by
 simpa [eq_comm]using h
theorem e5K{g:DataW H->Option (List IV)}{d:DataW H}{r:List (DataW H)}{l:List IV}(h:dl g (d::r)=some l): ∃x y,g d=some x/\dl g r=some y/\l=x++y:=by
 simp only [dl]at h;split at h
 ·rename_i x y h1 h2;exact⟨x,y,h1,h2,(h1M h).symm⟩
 ·cases h
theorem zC{F:List Value->Option (DataW H×List MemPlace)}{g:DataW H->Option (List IV)}(z: ∀cs d ps xs,F cs=some (d,ps)->g d=some xs->eB (M0 W) xs cs)
  {rd:Nat->Option (List Value)} : ∀(m:List Nat)(p:List (DataW H×List MemPlace))(l:List IV),m.mapM (fun i=>(rd i).bind F)=some p->dl g (p.map (·.1))=some l->
  ∃j:List (List Value),m.mapM rd=some j/\eB (M0 W) l j.flatten
 | [],p,l,h,hl=>by
  obtain rfl:=oS h;simp only [h4D,dl,h0V]at hl;subst hl;exact⟨[],rfl,eB.nil _⟩
 |i::m,p,l,h,hl=>by
  obtain⟨b,G,D,K,rfl⟩:=mS h;simp only [h2H]at hl;obtain⟨x,y,L,A,rfl⟩:=e5K hl;obtain⟨j,h1,h2⟩:=zC z m G y K A;obtain⟨cs,r,u⟩:=h2W.1 D;refine⟨cs::j,by simp [r,h1],?_⟩;simp only [h6K];exact(z cs b.1 b.2 x u L).append h2
theorem jC{α β:Type}{f:α->Option β} : ∀{l:List α}{r:List β},l.mapM f=some r->l.length=r.length/\∀(i:Nat)(a:α),l[i]?=some a-> ∃b,r[i]?=some b/\f a=some b
 | [],r,h=>by obtain rfl:=oS h;exact⟨rfl,fun i a e=>by simp at e⟩
 |x::l,r,h=>by
  obtain⟨b,m,j,g,rfl⟩:=mS h;obtain⟨h1,h2⟩:=jC g;refine⟨by simp [h1],fun i a e=>?_⟩
  cases i with
  |zero=>simp at e;subst e;exact⟨b,rfl,j⟩
  |succ i=>exact h2 i a (by simpa using e)
theorem rX{α:Type}{sz:Nat} : ∀{g:List (List α)},(∀v∈g,v.length=sz)-> ∀(i j:Nat)(v:List α),g[i]?=some v->j<sz->g.flatten[i*sz+j]?=v[j]?
 | [],_,i,j,v,h,_=>by simp at h
 |u::g,hl,0,j,v,h,hj=>by
  simp at h;subst h;simp only [h6K,h5K,h1Q];rw [h1Z (by rw [hl u (by simp)];exact hj)]
 |u::g,hl,i+1,j,v,h,hj=>by
  simp only [h6K];have l:=hl u (by simp);rw [h1V (by rw [l];rw [h6B];omega),l];have:(i+1)*sz+j-sz=i*sz+j:=by rw [h6B];omega
  rw [this];exact rX (fun x m=>hl x (by simp [m])) i j v (by simpa using h) hj
theorem rY{α:Type}{sz:Nat} : ∀{g:List (List α)},(∀v∈g,v.length=sz)->g.flatten.length=g.length*sz
 | [],_=>by simp
 |u::g,hl=>by
  simp only [h6K,h1E,h1O];rw [hl u (by simp),rY (fun x i=>hl x (by simp [i])),h6B,Nat.add_comm]
theorem d4F{a:Addr}{sz n:Nat}{g:List (List Value)}(y:0<sz)(h:(List.range n).mapM (fun i=>W.cells? 0 (a.add (i*sz)) sz)=some g):
  g.length=n/\g.flatten.length=n*sz/\(0<n->a.spot=none)/\∀i,i<n*sz-> ∃v,g.flatten[i]?=some v/\W.cell? ⟨a.block,a.off+i,none⟩=some v:=by
 obtain⟨h1,h2⟩:=jC h;simp only [h5I]at h1;have p: ∀v∈g,v.length=sz:=by
  intro v r;obtain⟨i,u,rfl⟩:=h7C r;obtain⟨b,D,L⟩:=h2 i i (by simp [h1,u]);rw [h0U u]at D;obtain rfl:=h1M D;exact(World.cells?_some L).2.1
 have A:=rY p;rw [<-h1]at A;have m: ∀i j,i<n->j<sz-> ∃v,g.flatten[i*sz+j]?=some v/\W.cell? ((a.add (i*sz)).add j)=some v:=by
  intro i j u T;obtain⟨b,D,L⟩:=h2 i i (by simp [u]);obtain⟨_,K,V⟩:=World.cells?_some L;refine⟨b[j]'(by omega),?_,?_⟩
  ·rw [rX p i j b D T,h0U]
  ·rw [V j T,h0U]
 have l:0<n->a.spot=none:=by
  intro G;obtain⟨v,_,r⟩:=m 0 0 G y;simp only [h5K,Addr.add,if_true]at r
  cases hs:a.spot with
  |none=>rfl
  |some s=>
   unfold World.cell? at r;rw [hs]at r;simp at r;split at r<;>simp at r
 refine⟨h1.symm,A,l,fun i u=>?_⟩;have G:0<n:=by
  rcases h6C n with e|e
  ·subst e;simp at u
  ·exact e
 have z:i/sz<n:=(h6S y).2 u;obtain⟨v,O,K⟩:=m (i/sz) (i%sz) z (h7O _ y);have e:i/sz*sz+i%sz=i:=by rw [h7Y];exact Nat.div_add_mod i sz
 rw [e]at O;refine⟨v,O,?_⟩;obtain⟨b,o,s⟩:=a;have:s=none:=l G;subst this;rw [dA,dA,h5D,e]at K;exact K
theorem f1Y{b o:Nat}{v:Value}(h:W.cell? ⟨b,o,none⟩=some v): ∃n,(M0 W).bsz b=some n/\o<n:=by
 unfold World.cell? at h;simp only [h3S,h1X,if_false]at h;simp only [M0];split at h
 ·rename_i c j i g;rw [g];exact⟨c.size,rfl,(h7I.1 h).1⟩
 ·simp at h
theorem d4G{g:TypeId->DataW H->Option (List IV)}{F:TypeId->List Value->Option (DataW H×List MemPlace)}(p: ∀t cs d ps xs,F t cs=some (d,ps)->g t d=some xs->eB (M0 W) xs cs){cs:List Value} :
  ∀(m:List Field)(i:Nat)(xs:List (DataW H×List MemPlace))(l:List IV),m.mapM (fun f=>F f.type ((cs.drop f.offset).take (P.cellsOf f.type)))=some xs->dfs P g i m (xs.map (·.1))=some l->
  eB (M0 W) l ((cs.drop i).take l.length)
 | [],i,xs,l,h,hl=>by
  obtain rfl:=oS h;simp only [h4D,dfs,h0V]at hl;subst hl;exact eB.nil _
 |f::m,i,xs,l,h,hl=>by
  obtain⟨b,z,u,A,rfl⟩:=mS h;simp only [h2H,dfs]at hl;split at hl
  case isFalse=>cases hl
  rename_i D;split at hl
  case h_2=>cases hl
  rename_i x y G r;split at hl
  case isFalse=>cases hl
  rename_i j;obtain rfl:=(h1M hl).symm;have h1:=p _ _ b.1 b.2 x u G;have h2:=d4G p m (i+P.cellsOf f.type) z y A r;rw [D]at h1;have e:(cs.drop i).take (x++y).length=(cs.drop i).take (P.cellsOf f.type)++(cs.drop (i+P.cellsOf f.type)).take y.length:=by
   rw [h1E,j,List.take_add,List.drop_drop]
  rw [e];exact h1.append h2
theorem b5C(a5: ∀b,sp b=true): ∀(p n:Nat)(t:TypeId)(cs:List Value)(d:DataW H)(ps:List MemPlace)(xs:List IV),DataW.trod enc P W 0 sp hd p t cs=some (d,ps)->eP P n t d=some xs->eB (M0 W) xs cs
 |0,_,_,_,_,_,_,h,_=>by simp [DataW.trod]at h
 |p+1,0,_,_,_,_,_,_,hx=>by simp [eP]at hx
 |p+1,n+1,t,vs,d,ps,xs,h,hx=>by
  have ih:=b5C a5 p n;simp only [DataW.trod]at h;simp only [eP]at hx;split at h
  ·rename_i j;obtain⟨rfl,rfl⟩:=h2X (Option.some.inj h);simp only [j,h0V]at hx;subst hx;exact qB (.bool _) rfl
  ·rename_i j;split at h
   case isFalse=>cases h
   rename_i hk;obtain⟨rfl,rfl⟩:=h2X (Option.some.inj h);simp only [j,h0V]at hx;subst hx;rw [hk.1];exact qB (.int _ _) rfl
  ·rename_i j;split at h
   case isFalse=>cases h
   obtain⟨rfl,rfl⟩:=h2X (Option.some.inj h);simp only [j]at hx;cases hx
  ·rename_i j;split at h
   case isFalse=>cases h
   obtain⟨rfl,rfl⟩:=h2X (Option.some.inj h);simp only [j,h0V]at hx;subst hx;exact qB (.str _) rfl
  ·rename_i j;obtain⟨rfl,rfl⟩:=h2X (Option.some.inj h);simp only [j,h0V]at hx;subst hx;exact qB .nilptr rfl
  ·rename_i j;obtain⟨x,b9,b1⟩:=h0W.1 h;obtain⟨rfl,rfl⟩:=h2X b1;simp only [j]at hx;cases hx
  ·rename_i j;obtain⟨rfl,rfl⟩:=h2X (Option.some.inj h);simp only [j,h0V]at hx;subst hx;exact qB .vnil rfl
  ·rename_i e a len cap j;split at h
   case isFalse=>cases h
   rename_i a3;obtain⟨L,a2,b0⟩:=h2W.1 h;obtain⟨b6,a4,a9⟩:=h0W.1 b0;obtain⟨rfl,rfl⟩:=h2X a9;simp only [j]at hx;split at hx
   case h_2=>cases hx
   rename_i l hl;split at hx
   case isFalse=>cases hx
   rename_i D;obtain rfl:=(Option.some.inj hx).symm;obtain⟨K,Z,A⟩:=zC (F:=DataW.trod enc P W 0 sp hd p e) (g:=eP P n e) (fun cs d ps xs q1 q2=>ih e cs d ps xs q1 q2) _ L l a2 hl;obtain⟨g1,g2,g3,g4⟩:=d4F D.1 Z;have z:L.length=len:=by
    have:=(jC a2).1;simpa using this.symm
   rw [if_pos (a5 _)]at a4;have Y:cap=0\/ (a.spot=none/\∃m,(M0 W).bsz a.block=some m/\a.off+cap*P.cellsOf e<=m):=by
    rcases h6C cap with h0|h0
    ·exact .inl h0
    right
    have G: ∀i,i<cap-> ∃vs,W.cells? 0 (a.add (i*P.cellsOf e)) (P.cellsOf e)=some vs:=by
     intro i T;rcases h2D i len with q|q
     ·obtain⟨b,_,V⟩:=(jC a2).2 i i (by simp [q]);obtain⟨vs,u,_⟩:=h2W.1 V;exact⟨vs,u⟩
     ·obtain⟨b,_,V⟩:=(jC a4).2 (i-len) (i-len) (by rw [h5W (by omega)]);obtain⟨vs,u,_⟩:=h2W.1 V;rw [show len+(i-len)=i by omega]at u;exact⟨vs,u⟩
    have O:a.spot=none:=by
     obtain⟨vs,u⟩:=G 0 h0;obtain⟨_,q2,q3⟩:=World.cells?_some u;have:=q3 0 D.1;rw [h0U (by omega)]at this;simp only [h5K,Addr.add,if_true]at this
     cases hs:a.spot with
     |none=>rfl
     |some s=>
      unfold World.cell? at this;rw [hs]at this;simp at this;split at this<;>simp at this
    refine⟨O,?_⟩;obtain⟨vs,u⟩:=G (cap-1) (by omega);obtain⟨_,q2,q3⟩:=World.cells?_some u;have:=q3 (P.cellsOf e-1) (by omega);rw [h0U (by omega)]at this;obtain⟨ab,ao,b7⟩:=a;simp only at O;subst O;rw [dA,dA]at this;obtain⟨m,a8,b8⟩:=f1Y this;refine⟨m,a8,?_⟩;have e1:cap*P.cellsOf e=(cap-1)*P.cellsOf e+P.cellsOf e:=by
     rw [<-Nat.succ_mul];congr 1;omega
    show ao+cap*P.cellsOf e<=m;omega
   refine qB ?_ rfl;rw [h1P,z];rw [h1P,z]at D;refine .vslice a (fun i=>K.flatten.getD i undef) D.2 a3.2.1 Y ?_ ?_ A.2 (by simp) (fun _=> .inl rfl)
   ·intro i T;rw [D.2]at T;obtain⟨v,p1,p2⟩:=g4 i T;simp only [M0,h1A,p1,p2,h5P]
   ·intro i T;have a7:i<K.flatten.length:=by rw [<-A.len];exact T
    have:=A.1.2 i T a7;simp only [h1A,h0U a7,h5P];exact this
  ·rename_i cs' fs j;split at h
   case isFalse=>cases h
   rename_i z;obtain⟨ys,a0,r⟩:=h0W.1 h;obtain⟨rfl,rfl⟩:=h2X r;simp only [j]at hx;split at hx
   case h_2=>cases hx
   rename_i l hl;split at hx
   case isFalse=>cases hx
   rename_i b3;obtain rfl:=(Option.some.inj hx).symm;have:=d4G (W:=W) (F:=fun t cs=>DataW.trod enc P W 0 sp hd p t cs) (g:=eP P n) (fun t cs d ps xs q1 q2=>ih t cs d ps xs q1 q2) fs.toList 0 ys xs a0 hl;rw [h4J,b3,<-z,h5Q]at this;exact this
  ·rename_i vs xo cs' m e j;split at h
   case isFalse=>cases h
   obtain⟨ys,a0,r⟩:=h0W.1 h;obtain⟨rfl,rfl⟩:=h2X r;simp only [j]at hx;split at hx
   case h_2=>cases hx
   rename_i l hl;split at hx
   case isFalse=>cases hx
   rename_i hc;obtain rfl:=(Option.some.inj hx).symm;obtain⟨K,Z,A⟩:=zC (F:=DataW.trod enc P W 0 sp hd p e) (g:=eP P n e) (rd:=fun i=>some ((vs.drop (i*P.cellsOf e)).take (P.cellsOf e))) (fun cs d ps xs q1 q2=>ih e cs d ps xs q1 q2) _ ys xs (by simpa using a0) hl;have b4:vs.length=m*P.cellsOf e:=by omega
   have b2:K.flatten=vs:=by
    obtain⟨g1,g2⟩:=jC Z;simp only [h5I]at g1;have a6: ∀v∈K,v.length=P.cellsOf e:=by
     intro v hv;obtain⟨i,T,rfl⟩:=h7C hv;obtain⟨b,V,a1⟩:=g2 i i (by simp [g1,T]);rw [h0U T]at V;obtain rfl:=Option.some.inj V;have:=Option.some.inj a1;rw [<-this];simp only [h1Y,h5N,b4];have:i*P.cellsOf e+P.cellsOf e<=m*P.cellsOf e:=by
      rw [<-Nat.succ_mul];exact h2Q _ (by omega)
     omega
    refine h3T (fun k=>?_);rcases h2D k (m*P.cellsOf e)with hk|hk
    ·have b5:k/P.cellsOf e<m:=(h6S hc.2.2.2).2 hk;obtain⟨b,V,a1⟩:=g2 (k/P.cellsOf e) (k/P.cellsOf e) (by rw [h5W b5]);have X:=h7O k hc.2.2.2;have e1:k/P.cellsOf e*P.cellsOf e+k%P.cellsOf e=k:=by rw [h7Y];exact Nat.div_add_mod k _
     have q:=rX a6 (k/P.cellsOf e) (k%P.cellsOf e) b V X;rw [e1]at q;rw [q,<-Option.some.inj a1,h4H,if_pos X,h4N,e1]
    ·rw [h2E (by rw [rY a6,<-g1];exact hk),h2E (by omega)]
   rw [b2]at A;exact A
  ·rename_i j;obtain⟨rfl,rfl⟩:=h2X (Option.some.inj h);simp only [j]at hx;cases hx
  ·rename_i j;split at h
   ·obtain⟨rfl,rfl⟩:=h2X (Option.some.inj h);simp only [j]at hx;cases hx
   ·obtain⟨y,_,r⟩:=h0W.1 h;obtain⟨rfl,rfl⟩:=h2X r;simp only [j]at hx;cases hx
   ·cases h
  ·rename_i j;obtain⟨rfl,rfl⟩:=h2X (Option.some.inj h);simp only [j,h0V]at hx;subst hx;exact qB .nilmap rfl
  ·rename_i j;split at h
   case h_2=>cases h
   split at h
   case isFalse=>cases h
   obtain⟨y,_,r⟩:=h2W.1 h;split at r
   case isFalse=>cases r
   obtain⟨rfl,rfl⟩:=h2X (Option.some.inj r);simp only [j]at hx;cases hx
  all_goals first
   | (rename_i j;obtain⟨rfl,rfl⟩:=h2X (Option.some.inj h);simp only [j]at hx;cases hx)
   | (rename_i j;split at h; (obtain⟨rfl,rfl⟩:=h2X (Option.some.inj h);simp only [j]at hx;cases hx);cases h)
   |cases h
def d4H(P:Program)(n:Nat)(t:TypeId)(d:DataW H):Option IV:=
 match eP P n t d with
 |some xs=>match P.underlying t with
  |some (.struct _)=>some (.agg xs)
  |some (.array ..)=>some (.agg xs)
  |_=>match xs with
   | [x]=>some x
   |_=>none
 |none=>none
theorem c0Q{base:Nat}{t:TypeId}{v:Value}(h:Cell.okWide P W .any base t v):v.cells= #[v]:=by
 cases v<;>first
  |rfl
  | (exfalso;unfold Cell.okWide at h;split at h<;>(first| (rename_i h1 h2;cases h2)| (unfold Cell.ok at h;split at h<;>first| (rename_i h1 h2;cases h2)|exact h)))
theorem f1Z{base n:Nat}{t:TypeId}{v:Value}{d:DataW H}{p:List MemPlace}{x:IV}(g:Value.okWide P W .any base t v)(h:DataW.Trod enc P W 0 (fun _=>true) true t v d p)(i:d4H P n t d=some x):VR (M0 W) x v:=by
 obtain⟨l,K⟩:=h;unfold d4H at i;split at i
 case h_2=>cases i
 rename_i xs A;have u:=b5C (fun _=>rfl) l n t _ d p xs K A;unfold Value.okWide at g;split at i
 ·rename_i G j;simp only [j]at g;obtain⟨cs,rfl,h1,h2⟩:=g;obtain rfl:=(h1M i).symm;simpa using gW (rc:=cs.toList) u
 ·rename_i m e j;simp only [j]at g;obtain⟨cs,rfl,h1,h2⟩:=g;obtain rfl:=(h1M i).symm;simpa using gW (rc:=cs.toList) u
 ·rename_i D z;split at i
  case h_2=>cases i
  rename_i y;obtain rfl:=(h1M i).symm;split at g
  ·rename_i G j;exact absurd j (D G)
  ·rename_i m e j;exact absurd j (z m e)
  ·rw [c0Q g]at u;obtain⟨r,rs,e,h1,_⟩:=u.1.uncons;simp at e;rw [e.1];exact h1
end
end Go.Pv
end
section
namespace Go.Pv
open Go.ChangeShapes Go.RowKit
theorem d0S{E:Env}(i:E.P.follows .mixedOrders=true)(l:yX E.P=true){f:FuncId}{xs:List IV}(j:aU E f xs Heap.empty fun v _=>v= .bool true)
  (W:World) {rs:List Value} (hG:GOK E (M0 W)) (hv:cW (M0 W) xs rs):
  Calls E.P f rs.toArray W fun e m=>e= .returned (.bool true)/\Below W.heap.size W m:=by
 obtain⟨n,v,h',g,rfl⟩:=j;exact d4E i l g W hG hv
section
variable {P:Program} {W:World} {base:Nat} {t:TypeId} {v:Value}
theorem e5L{k:IntKind}(g:P.underlying t=some (.int k))(h:Value.okWide P W .any base t v): ∃n,v= .int k n/\k.has n:=by
 unfold Value.okWide at h;simp only [g]at h
 cases v<;>simp [Cell.okWide,Cell.ok,g]at h
 rename_i i n;obtain⟨rfl,h2⟩:=h;exact⟨n,rfl,h2⟩
theorem a1X{n:Int}(h:IntKind.i64.has n): -9223372036854775808<=n/\n<=9223372036854775807:=by
 simpa [IntKind.has,IntKind.min,IntKind.max,IntKind.bits,IntKind.signed]using h
end
end Go.Pv
end
section
namespace Go.Pv
mutual
inductive OkC(P:Program):TypeId->List IV->Prop
 |bool {t b} :P.underlying t=some .bool->OkC P t [.bool b]
 |int {t k z} :P.underlying t=some (.int k)->k.has z->OkC P t [.int k z]
 |str {t} {l:List UInt8} :P.underlying t=some .string->l.length<=maxLen->OkC P t [.str l]
 |slice {t e n cs} :P.underlying t=some (.slice e)->n<=maxLen->OkE P e n cs->OkC P t [.vslice none 0 n (P.cellsOf e) cs]
 |struct {t fs xs} :P.underlying t=some (.struct fs)->OkF P fs.toList xs->OkC P t xs
 |array {t m e xs} :P.underlying t=some (.array m e)->OkE P e m xs->OkC P t xs
inductive OkE(P:Program):TypeId->Nat->List IV->Prop
 |nil {e} :OkE P e 0 []
 |cons {e n ys xs} :OkC P e ys->OkE P e n xs->OkE P e (n+1) (ys++xs)
inductive OkF(P:Program):List Field->List IV->Prop
 |nil:OkF P [] []
 |cons {f fs ys xs} :OkC P f.type ys->OkF P fs xs->OkF P (f::fs) (ys++xs)
end
def a2W(P:Program)(g:TypeId->Bool):Nat->List Field->Option Nat
 |off,[]=>some off
 |off,f::fs=>if f.offset=off/\g f.type=true then a2W P g (off+P.cellsOf f.type) fs else none
def nP(P:Program):Nat->TypeId->Bool
 |0,_=>false
 |n+1,t=>match P.underlying t with
  |some .bool=>P.cellsOf t==1
  |some (.int _)=>P.cellsOf t==1
  |some .string=>P.cellsOf t==1
  |some (.slice e)=>P.cellsOf t==1&&decide (0<P.cellsOf e) &&nP P n e
  |some (.struct fs)=>a2W P (nP P n) 0 fs.toList==some (P.cellsOf t)
  |some (.array m e)=>decide (0<P.cellsOf e) &&nP P n e&& (m*P.cellsOf e==P.cellsOf t)
  |_=>false
section
variable {H:Type} {enc:TypeId×Value->H} {P:Program} {W:World} {base:Nat} {sp:Nat->Bool} {hd:Bool}
theorem zD{α β:Type}{f:α->Option β} : ∀{l:List α}{r:List β},l.mapM f=some r-> ∀y∈r,∃x∈l,f x=some y
 | [],r,h,y,g=>by rw [oS h]at g;cases g
 |a::l,r,h,y,g=>by
  obtain⟨b,j,h1,h2,rfl⟩:=mS h;rcases h2O.1 g with rfl|g
  ·exact⟨a,h2C,h1⟩
  ·obtain⟨x,i,e⟩:=zD h2 y g;exact⟨x,h2N _ i,e⟩
theorem d4I{g:DataW H->Option (List IV)}{e:TypeId}{sz:Nat} : ∀{r:List (DataW H)},(∀d∈r,∃j,g d=some j/\OkC P e j/\j.length=sz)->
  ∃i,dl g r=some i/\OkE P e r.length i/\i.length=r.length*sz
 | [],_=>⟨[],rfl,.nil,by simp⟩
 |d::r,h=>by
  obtain⟨j,h1,h2,h3⟩:=h d h2C;obtain⟨i,l,m,u⟩:=d4I (r:=r) fun x p=>h x (h2N _ p)
  refine⟨j++i,by simp [dl,h1,l],.cons h2 m,?_⟩;rw [h1E,h3,u,h1O,h6B,Nat.add_comm]
theorem c5V{g:TypeId->DataW H->Option (List IV)}{pl:TypeId->Bool}{F:Field->Option (DataW H×List MemPlace)}
  (hF: ∀f d ps,pl f.type=true->F f=some (d,ps)-> ∃p,g f.type d=some p/\OkC P f.type p/\p.length=P.cellsOf f.type):
  ∀{l:List Field}{i j:Nat}{xs:List (DataW H×List MemPlace)},a2W P pl i l=some j->l.mapM F=some xs-> ∃m,dfs P g i l (xs.map (·.1))=some m/\OkF P l m/\i+m.length=j
 | [],i,j,xs,h,hm=>by
  rw [oS hm];exact⟨[],rfl,.nil,by simpa [a2W]using h⟩
 |f::l,i,j,xs,h,hm=>by
  obtain⟨b,G,h1,h2,rfl⟩:=mS hm;unfold a2W at h;split at h
  case isFalse=>cases h
  rename_i r;obtain⟨p,u,y,D⟩:=hF f b.1 b.2 r.2 h1;obtain⟨m,z,A,K⟩:=c5V hF h h2;refine⟨p++m,?_,.cons y A,?_⟩
  ·simp only [h2H,dfs,if_pos r.1,u,z,D,if_true]
  ·rw [h1E];omega
theorem f2A{k:IntKind}{n:Int}(h:(Lit.int k n).wf=true):k.has n:=by
 simpa [Lit.wf,IntKind.has]using h
theorem c5W: ∀(p n:Nat)(t:TypeId)(cs:List Value)(d:DataW H)(ps:List MemPlace),nP P n t=true->DataW.trod enc P W base sp hd p t cs=some (d,ps)->
  ∃xs,eP P n t d=some xs/\OkC P t xs/\xs.length=P.cellsOf t
 |0,_,_,_,_,_,_,h=>by simp [DataW.trod]at h
 |p+1,0,_,_,_,_,hp,_=>by simp [nP]at hp
 |p+1,n+1,t,vs,d,ps,hp,h=>by
  have G:=c5W p n;simp only [DataW.trod]at h;simp only [nP]at hp;split at h
  ·rename_i j;obtain⟨rfl,rfl⟩:=h2X (h1M h);simp only [j,beq_iff_eq]at hp;exact⟨_,by simp only [eP,j];rfl,.bool j,hp.symm⟩
  ·rename_i j;split at h
   case isFalse=>cases h
   rename_i L;obtain⟨rfl,rfl⟩:=h2X (h1M h);simp only [j,beq_iff_eq]at hp;exact⟨[.int _ _],by simp only [eP,j],.int j (f2A L.2),hp.symm⟩
  ·rename_i j;simp only [j]at hp
   cases hp
  ·rename_i s j;split at h
   case isFalse=>cases h
   rename_i L;obtain⟨rfl,rfl⟩:=h2X (h1M h);simp only [j,beq_iff_eq]at hp;exact⟨_,by simp only [eP,j];rfl,.str j (by simpa using L),hp.symm⟩
  ·rename_i j;simp only [j]at hp
   cases hp
  ·rename_i j;simp only [j]at hp
   cases hp
  ·rename_i j;obtain⟨rfl,rfl⟩:=h2X (h1M h);simp only [j,beq_iff_eq,h0Y]at hp;exact⟨[.vslice none 0 0 _ []],by simp only [eP,j],.slice j (h1N _) .nil,hp.1.1.symm⟩
  ·rename_i e a len cap j;split at h
   case isFalse=>cases h
   rename_i T;obtain⟨l,h1,h2⟩:=h2W.1 h;obtain⟨Z,h3,h4⟩:=h0W.1 h2;obtain⟨rfl,rfl⟩:=h2X h4;simp only [j,beq_iff_eq,h0Y,decide_eq_true_eq]at hp;obtain⟨A,D,y,u⟩:=d4I (P:=P) (g:=eP P n e) (e:=e) (sz:=P.cellsOf e) (r:=l.map (·.1)) fun d z=>by
    obtain⟨x,O,rfl⟩:=h4O.1 z;obtain⟨i,_,K⟩:=zD h1 x O;obtain⟨cs',_,hc⟩:=h2W.1 K;exact G e cs' x.1 x.2 hp.2 hc
   have X:l.length=len:=by
    have:=(jC h1).1;simpa using this.symm
   rw [h1P]at y u;refine⟨[.vslice none 0 l.length (P.cellsOf e) A],?_,.slice j (by omega) y,hp.1.1.symm⟩;simp only [eP,j,D,h1P];rw [if_pos ⟨hp.1.2,u⟩]
  ·rename_i cs' fs j;split at h
   case isFalse=>cases h
   rename_i Y;obtain⟨xs,h1,h2⟩:=h0W.1 h;obtain⟨rfl,rfl⟩:=h2X h2;simp only [j,beq_iff_eq]at hp;obtain⟨A,D,y,u⟩:=c5V (g:=eP P n) (pl:=nP P n) (fun f d ps V hf=>G f.type _ d ps V hf) hp h1;have u:A.length=P.cellsOf t:=by omega
   exact⟨A,by simp only [eP,j,D,u,if_true],.struct j y,u⟩
  ·rename_i vs xo cs' m e j;split at h
   case isFalse=>cases h
   obtain⟨xs,h1,h2⟩:=h0W.1 h;obtain⟨rfl,rfl⟩:=h2X h2;simp only [j,beq_iff_eq,h0Y,decide_eq_true_eq]at hp;obtain⟨A,D,y,u⟩:=d4I (P:=P) (g:=eP P n e) (e:=e) (sz:=P.cellsOf e) (r:=xs.map (·.1)) fun d z=>by
    obtain⟨x,O,rfl⟩:=h4O.1 z;obtain⟨i,_,K⟩:=zD h1 x O;exact G e _ x.1 x.2 hp.1.2 K
   have X:xs.length=m:=by
    have:=(jC h1).1;simpa using this.symm
   rw [h1P,X]at y u;refine⟨A,?_,.array j y,u.trans hp.2⟩;simp only [eP,j,D,h1P];rw [if_pos ⟨u.trans hp.2,u,X,hp.1.1⟩]
  all_goals first
   | (rename_i j;simp only [j]at hp;cases hp;done)
   | (rename_i j;split at h<;>simp only [j]at hp<;>cases hp;done)
   |cases h
def g0O(P:Program)(t:TypeId)(xs:List IV):Option IV:=match P.underlying t with
 |some (.struct _)=>some (.agg xs)
 |some (.array ..)=>some (.agg xs)
 |_=>match xs with
  | [x]=>some x
  |_=>none
theorem c0R{t:TypeId}{v:Value}{d:DataW H}{p:List MemPlace}(n:Nat)(j:nP P n t=true)(i:Value.okWide P W .any base t v)(h:DataW.Trod enc P W 0 (fun _=>true) true t v d p):
  ∃xs,OkC P t xs/\∀x,g0O P t xs=some x->VR (M0 W) x v:=by
 obtain⟨g,m⟩:=id h;obtain⟨xs,h1,h2,_⟩:=c5W g n t _ d p j m;refine⟨xs,h2,fun x l=>f1Z (n:=n) i h ?_⟩;unfold d4H
 rw [h1];exact l
end
section
variable {P:Program} {t e:TypeId} {xs:List IV}
theorem OkC.int_inv{k:IntKind}(g:P.underlying t=some (.int k))(h:OkC P t xs): ∃z,xs=[.int k z]/\k.has z:=by
 cases h with
 |int h1 h2=>rw [h1]at g;cases g;exact⟨_,rfl,h2⟩
 |_=>simp_all
theorem OkC.slice_inv(g:P.underlying t=some (.slice e))(h:OkC P t xs): ∃n cs,xs=[.vslice none 0 n (P.cellsOf e) cs]/\n<=maxLen/\OkE P e n cs:=by
 cases h with
 |slice h1 h2 h3=>rw [h1]at g;cases g;exact⟨_,_,rfl,h2,h3⟩
 |_=>simp_all
theorem OkE.list{α:Type}{c:α->List IV}{good:α->Prop}(hc: ∀ys,OkC P e ys-> ∃a,ys=c a/\good a): ∀{n:Nat}{cs:List IV},OkE P e n cs-> ∃l:List α,n=l.length/\cs=l.flatMap c/\∀a∈l,good a
 |_,_,.nil=>⟨[],rfl,rfl,by simp⟩
 |_,_,.cons h1 h2=>by
  obtain⟨a,rfl,g⟩:=hc _ h1;obtain⟨l,rfl,rfl,i⟩:=OkE.list hc h2;exact⟨a::l,rfl,rfl,by simpa using⟨g,i⟩⟩
theorem OkE.ints{k:IntKind}{n:Nat}{cs:List IV}(i:P.underlying e=some (.int k))(h:OkE P e n cs): ∃l:List Int,n=l.length/\cs=l.map (IV.int k)/\∀a∈l,k.has a:=by
 obtain⟨l,h1,h2,h3⟩:=h.list (c:=fun a=>[IV.int k a]) (good:=k.has) fun j g=>OkC.int_inv i g
 refine⟨l,h1,?_,h3⟩;rw [h2];clear h1 h2 h3
 induction l with
 |nil=>rfl
 |cons a l ih=>simpa using ih
end
end Go.Pv
end
section
namespace Go.Proofs.YtkonebkblgemkaaGreat
open Go.Pv
abbrev KT:=IV->Heap->Prop
def tI(n:Int):Option TV:=some (.v (.int .i64 n))
def wW(n:Int):Int:=IntKind.wrap .i64 n
def iI(n:Int):IV:= .int .i64 n
def tab(l:List (Nat×List Nat))(f d:Nat):Nat:=match l.find? (fun p=>p.1==f)with
 |some (_,ds)=>if ds.contains d then 1 else 0
 |none=>0
def g0Q(l:List (Nat×Nat×List Nat))(f r:Nat):List Nat:=match l.find? (fun p=>p.1==f&&p.2.1==r)with
 |some (_,_,ds)=>ds
 |none=>[]
def has(l:List (Nat×List Nat))(f d:Nat):Bool:=l.any fun p=>p.1==f&&p.2.contains d
def env:Env where
 P:=Tryz.prog
 G:=fun _=>none
 A:=tab [(5,[70]),(225,[12]),(33,[73,105]),(204,[64]),(147,[171]),(34,[34])]
 bx:=tab [(11,[43]),(13,[12]),(16,[13]),(17,[11]),(23,[22]),(24,[24]),(31,[12]),(33,[37]),(34,[14]),(55,[5,9,10,11,12]),(61,[20]),(155,[3])]
 fz:=fun f=>([31,34,53,225]:List Nat).contains f
 nf:=fun f=>true
 iso:=fun f=>!([39,42,46,47,48,55,56,57,60,77,78,79,80,81,83,84,89,90,92,95,96,98,101,103,106,114,115,116,117,118,119,147,148,149,150,151,152,154,160,166,176,184,185,186,187,204,214,215,216,217,221,228,232,233,234]:List Nat).contains f
 an:=g0Q [(23,1,[5,6]),(55,2,[10,11]),(55,3,[2,3]),(57,1,[5,11])]
 od:=g0Q [(147,24,[0,1,2,3,4,5,6,8,9,10,11,12,7,13,14,15,16])]
 nr:=fun f=>([77,78,79,80,81,147,152,204,221]:List Nat).contains f
 fm:=has [(5,[102])]
 ld:=has [(11,[139,143,100]),(76,[51]),(152,[6,93,114,153,146]),(81,[6]),(34,[2,60])]
 ln:=fun f d=>if has [(84,[7,25]),(13,[23]),(92,[50,63]),(16,[38,47,54]),(77,[21,29,40,49]),(33,[54,87,124])] f d then 1 else if has [(33,[68,101])] f d then 2 else if has [(92,[39,55]),(55,[26,99,105]),(56,[31]),(23,[41,68,79]),(106,[19])] f d then 3 else if has [(79,[30]),(147,[29,143,170,179,200,208,219]),(204,[37,63,97,136,180]),(34,[37,43,49,55])] f d then 5 else if has [(106,[11])] f d then 6 else if has [(11,[110,145]),(46,[87]),(43,[39,44,57]),(54,[44]),(23,[85]),(26,[49]),(5,[50])] f d then 9 else 0
theorem d4J:env.P.follows .mixedOrders=true:=Checked.mixed Tryz.checked
theorem g0R:yX env.P=true:=by kernel_rfl
theorem e5M:laidOutB Tryz.prog=true:=by kernel_rfl
theorem own:ownKnob Tryz.prog.godebug=none:=by kernel_rfl
theorem g5I(W:World):GOK env (M0 W):=fun g cs e=>by cases e
end Go.Proofs.YtkonebkblgemkaaGreat
end
section
namespace Go.M13
def c5X:List Int:=[0,1,-1,2,-9223372036854775808,9223372036854775807,4294967296,-2147483648,63,64]
def contains(a b n:Int):Bool:=decide (a<=n) &&decide (n<=b)
def wlo(a c:Int):Int:=if c<a then-9223372036854775808 else a
def whi(b d:Int):Int:=if d>b then 9223372036854775807 else b
def dU(a b c d:Int):Bool:=decide (max a c<=min b d)
def cP(a b c d:Int):Int×Int:=if dU a b c d then(max a c,min b d)else(0,0)
end Go.M13
namespace Go.M13
theorem a2X(n m:Int)(h:0<m):(n.tmod m<0/\n.tmod m+m=n%m/\0<n%m/\n%m<m) \/ (0<=n.tmod m/\n.tmod m=n%m):=by
 have h1:n%m=if 0<=n\/m∣n then n.tmod m else n.tmod m+m:=by
  rw [Int.tmod_eq_emod];split<;>rename_i g
  ·omega
  ·rw [show(m.natAbs:Int)=m by omega];omega
 have h2:=h3K n (show m≠0 by omega);have h3:=h3J n h;split at h1
 ·right;omega
 ·rename_i g;have:n%m≠0:=fun e=>g (.inr (Int.dvd_of_emod_eq_zero e))
  left;omega
end Go.M13
namespace Go.M13
abbrev fK:Int:= -9223372036854775808
abbrev fW:Int:=9223372036854775807
def bJ(n:Int):Prop:= -9223372036854775808<=n/\n<=9223372036854775807
def iT(n:Int):Bool:=decide (-9223372036854775808<=n) &&decide (n<=9223372036854775807)
def tri(b c:Bool):Int×Int:=if b then(1,1)else if c then(0,0)else(0,1)
def c0S(a:Int):Int:=IntKind.i64.wrap (BitVec.ofInt IntKind.i64.bits (if IntKind.i64.signed=true then(-1:Int)else IntKind.i64.max) ^^^BitVec.ofInt IntKind.i64.bits a).toNat
def a1C(a b:Int):Int:=IntKind.i64.wrap (BitVec.ofInt IntKind.i64.bits a&&&BitVec.ofInt IntKind.i64.bits b).toNat
def ior(a b:Int):Int:=IntKind.i64.wrap (BitVec.ofInt IntKind.i64.bits a|||BitVec.ofInt IntKind.i64.bits b).toNat
def d0T(a b:Int):Int:=IntKind.i64.wrap (BitVec.ofInt IntKind.i64.bits a^^^BitVec.ofInt IntKind.i64.bits b).toNat
def wun(o a:Int):Int:=if o=20 then IntKind.i64.wrap (0-a)else if o=21 then c0S a else 0
def wV(a b:Int):Int:=if b=0 then 0 else if b= -1 then IntKind.i64.wrap (0-a)else IntKind.i64.wrap (a.tdiv b)
def mT(b:Bool):Int:=if b then 1 else 0
def b0R(b:Int):Int:=IntKind.u64.wrap (a1C b 63)
theorem nQ(b:Int):0<=b0R b:=by
 unfold b0R
 simp only [IntKind.wrap,IntKind.bits,IntKind.signed];simp;omega
def wX(o a b:Int):Int:=
 if o=12 then IntKind.i64.wrap (a*2^min (b0R b).toNat IntKind.i64.bits)
 else if o=13 then IntKind.i64.wrap ((IntKind.u64.wrap a).fdiv (2^min (b0R b).toNat IntKind.u64.bits))
 else if o=14 then a.fdiv (2^min (b0R b).toNat IntKind.i64.bits)
 else if o=15 then mT (a==b)
 else if o=16 then mT (a !=b)
 else if o=17 then mT (decide (a<b))
 else if o=18 then mT (decide (a<=b))
 else if o=19 then mT (decide (IntKind.u64.wrap a<IntKind.u64.wrap b))
 else 0
def a1D(o a b:Int):Int:=
 if o=4 then IntKind.i64.wrap (a+b)
 else if o=5 then IntKind.i64.wrap (a-b)
 else if o=6 then IntKind.i64.wrap (a*b)
 else if o=7 then wV a b
 else if o=8 then if b=0 then 0 else IntKind.i64.wrap (a-IntKind.i64.wrap (wV a b*b))
 else if o=9 then a1C a b
 else if o=10 then ior a b
 else if o=11 then d0T a b
 else wX o a b
end Go.M13
namespace Go.M13
def bnd(i g:Int):Int×Int:=if iT i&&iT g then(i,g)else(fK,fW)
def a1E(a b c d:Int):Int×Int:=if c<1 then(fK,fW)else(if a<0 then max a (1-d)else 0,if 0<b then min b (d-1)else 0)
def b0S(o a b c d:Int):Int×Int:=
 if o=15 then tri false (!dU a b c d)
 else if o=16 then tri (!dU a b c d) false
 else if o=18 then tri (decide (b<=c)) (decide (d<a))
 else if o=19/\(a<0\/c<0)/\(0<=b\/0<=d)then(0,1)
 else tri (decide (b<c)) (decide (d<=a))
def mB(a b c d e f:Int):Int×Int:=
 if b<a\/d<c\/f<e then(fK,fW)
 else if a=0/\b=0 then(e,f)
 else if contains a b 0 then(min c e,max d f)else(c,d)
theorem w64(n:Int):IntKind.i64.wrap n=(n+9223372036854775808)%18446744073709551616-9223372036854775808:=IntKind.wrap_i64 n
theorem f2E{a b:Int}(g:bJ a)(i:bJ b):(decide (IntKind.i64.wrap (a+b)<a)==decide (b<0))=iT (a+b):=by
 unfold bJ at g i;unfold iT
 rw [w64]
 grind
theorem e5N{a b:Int}(g:bJ a)(i:bJ b):(decide (IntKind.i64.wrap (a-b)>a)==decide (b<0))=iT (a-b):=by
 unfold bJ at g i;unfold iT
 rw [w64]
 grind
theorem gX{n:Int}(h:iT n=true):IntKind.i64.wrap n=n:=by
 unfold iT at h;simp at h;exact h0X _ (by omega)
theorem d4L(c:Int):a1C c 63=c%64:=by
 unfold a1C
 have h:(BitVec.ofInt IntKind.i64.bits c&&&BitVec.ofInt IntKind.i64.bits 63).toNat=(c%64).toNat:=by
  have e:IntKind.i64.bits=64:=rfl;rw [e];rw [BitVec.toNat_and];have g:(BitVec.ofInt 64 63).toNat=2^6-1:=by decide
  rw [g,h6W,BitVec.toNat_ofInt];omega
 rw [h,h0X _ (by omega)];omega
theorem e5O(c:Int):b0R c=c%64:=by
 unfold b0R
 rw [d4L];exact h7F _ (by omega)
end Go.M13
namespace Go.M13
def fX(n:Nat):Nat:=if n=0 then 0 else n.log2+1
def b0T(n:Int):Int:=((2^fX n.toNat:Nat):Int)-1
def a2Y(a p:Int):Int:=IntKind.i64.wrap (a*p)
def c0T(a p:Int):Bool:=(a2Y a p).fdiv p==a
def uZ(o a b c d:Int):Int×Int:=
 if o=12 then
  if c=d then if c0T a (2^ (c%64).toNat)/\c0T b (2^ (c%64).toNat)then(a2Y a (2^ (c%64).toNat),a2Y b (2^ (c%64).toNat))else(fK,fW)
  else(fK,fW)
 else if o=14 then if c=d then(a.fdiv (2^ (c%64).toNat),b.fdiv (2^ (c%64).toNat))else(min a 0,max b (-1))
 else if c=d then
  if c%64=0 then(a,b)
  else if 0<=a then(a.fdiv (2^ (c%64).toNat),b.fdiv (2^ (c%64).toNat))
  else(0,IntKind.i64.wrap (IntKind.i64.wrap (1*2^ (64-c%64).toNat)-1))
 else if 0<=a then(0,b)else(fK,fW)
theorem f2F:IntKind.bits IntKind.i64=64:=rfl
theorem g5J(c:Int):min (c%64).toNat 64=(c%64).toNat:=by omega
end Go.M13
namespace Go.M13
def iun(o a b:Int):Int×Int:=
 if(o≠20/\o≠21) \/b<a then(fK,fW)
 else if a=b then(wun o a,wun o a)
 else if o=21 then(c0S b,c0S a)
 else if a=fK then(fK,fW)
 else(IntKind.i64.wrap (0-b),IntKind.i64.wrap (0-a))
end Go.M13
namespace Go.M13
end Go.M13
namespace Go.M13
theorem b0U{s b:Int}(j:bJ s)(l:b≠0)(i:b≠ -1):IntKind.i64.wrap (s.tdiv b)=s.tdiv b:=by
 unfold bJ at j;apply h0X;have h1:(s.tdiv b).natAbs=s.natAbs/b.natAbs:=Int.natAbs_tdiv s b;rcases h2D s.natAbs 9223372036854775808 with h|h
 ·have h2:s.natAbs/b.natAbs<=s.natAbs:=Nat.div_le_self _ _;omega
 ·have e:s= -9223372036854775808:=by omega
  subst e;rcases h2D 1 b.natAbs with g|g
  ·have h3:(-9223372036854775808:Int).natAbs/b.natAbs<=9223372036854775808/2:=Nat.div_le_div_left g (by omega);omega
  ·obtain rfl:b=1:=by omega
   simp
theorem bX(n:Int):bJ (IntKind.i64.wrap n):=by
 unfold bJ
 rw [w64];omega
end Go.M13
end
section
namespace Go.M13
open Go.Pv
theorem c0U{n k:Nat}(h:2^k<=n):fX n=k+fX (n/2^k):=by
 have g:0<2^k:=h9B (by omega);have i:n≠0:=by omega
 have hd:n/2^k≠0:=by
  have:=(h8N g).2 (show 1*2^k<=n by omega);omega
 unfold fX
 rw [if_neg i,if_neg hd]
 suffices hs:n.log2=k+(n/2^k).log2 by omega
 obtain⟨h1,h2⟩:=(h6X hd (k:=(n/2^k).log2)).1 rfl;refine(h6X i).2 ⟨?_,?_⟩
 ·rw [Nat.pow_add,h7Y];exact(h8N g).1 h1
 ·rw [h5D,Nat.pow_add,h7Y (2^k)];exact(h6S g).1 h2
theorem b0V{n k:Nat}(h:n<2^k):fX n<=k:=by
 unfold fX
 split
 ·omega
 ·rename_i g;obtain⟨h1,h2⟩:=(h6X g (k:=n.log2)).1 rfl;rcases h2D n.log2 k with q|q
  ·omega
  ·have:=h5R (show 0<2 by omega) q;omega
theorem e5P(n:Nat):n<2^fX n:=by
 unfold fX
 split
 ·omega
 ·rename_i g;exact((h6X g (k:=n.log2)).1 rfl).2
theorem d0U(x y l i j g:Int)(u:x=i*4294967296+l)(p:y=g*4294967296+j):
  x*y=(i*g)*18446744073709551616+(i*j+l*g)*4294967296+l*j:=by
 subst u p;simp only [Int.add_mul,Int.mul_add];have r:i*4294967296*(g*4294967296)=(i*g)*18446744073709551616:=by
  rw [Int.mul_assoc,Int.mul_left_comm 4294967296 g,<-Int.mul_assoc];rfl
 have z:l*(g*4294967296)=l*g*4294967296:=by rw [Int.mul_assoc]
 have m:i*4294967296*j=i*j*4294967296:=by rw [Int.mul_assoc,h6D 4294967296,<-Int.mul_assoc]
 rw [r,z,m];omega
theorem vA{x y:Int}(h1:0<=x)(h2:x<=4294967295)(h3:0<=y)(h4:y<=4294967295):0<=x*y/\x*y<=18446744065119617025:=
 ⟨Int.mul_nonneg h1 h3,Int.mul_le_mul h2 h4 h3 (by omega)⟩
def a0Q(x y:Int):Int:=x*y/18446744073709551616
theorem a1F(n:Int):IntKind.u64.wrap n=n%18446744073709551616:=by
 unfold IntKind.wrap
 simp [IntKind.bits,IntKind.signed]
theorem d4M(x:Int):dH .u64 x 4294967295=x%4294967296:=by
 unfold dH
 have h:(BitVec.ofInt IntKind.u64.bits x&&&BitVec.ofInt IntKind.u64.bits 4294967295).toNat=(x%4294967296).toNat:=by
  have e:IntKind.u64.bits=64:=rfl;rw [e,BitVec.toNat_and];have g:(BitVec.ofInt 64 4294967295).toNat=2^32-1:=by decide
  rw [g,h6W,BitVec.toNat_ofInt];omega
 rw [h,a1F];omega
theorem d4N{x y:Int}(K:0<=x)(m:x<=18446744073709551615)(G:0<=y)(u:y<=18446744073709551615):
  x/4294967296*(y/4294967296)+(x/4294967296*(y%4294967296)+x%4294967296*(y%4294967296)/4294967296)/4294967296
   +((x/4294967296*(y%4294967296)+x%4294967296*(y%4294967296)/4294967296)%4294967296+x%4294967296*(y/4294967296))/4294967296=a0Q x y:=by
 have j:0<=x%4294967296/\x%4294967296<=4294967295:=by omega
 have D:0<=x/4294967296/\x/4294967296<=4294967295:=by omega
 have i:0<=y%4294967296/\y%4294967296<=4294967295:=by omega
 have g:0<=y/4294967296/\y/4294967296<=4294967295:=by omega
 have l:x=x/4294967296*4294967296+x%4294967296:=by omega
 have z:y=y/4294967296*4294967296+y%4294967296:=by omega
 generalize x%4294967296=x0 at*
 generalize x/4294967296=x1 at*
 generalize y%4294967296=y0 at*
 generalize y/4294967296=y1 at*
 have A:=d0U x y x0 x1 y0 y1 l z;have a:=vA (x:=x0) (y:=y0) (by omega) (by omega) (by omega) (by omega);have b:=vA (x:=x0) (y:=y1) (by omega) (by omega) (by omega) (by omega);have c:=vA (x:=x1) (y:=y0) (by omega) (by omega) (by omega) (by omega);unfold a0Q
 rw [A];generalize x0*y0=p at*
 generalize x0*y1=q at*
 generalize x1*y0=r at*
 generalize x1*y1=s at*
 omega
theorem e5Q{x y h:Int}(j:bJ x)(i:bJ y)(l:h=a0Q (x%18446744073709551616) (y%18446744073709551616)- (if x<0 then y else 0)- (if y<0 then x else 0)):
  (IntKind.i64.wrap h==(IntKind.i64.wrap (x*y)).fdiv (2^63))=iT (x*y):=by
 unfold bJ at j i;have r: -85070591730234615865843651857942052864<=x*y/\x*y<=85070591730234615865843651857942052864:=by
  have h1:(x*y).natAbs<=85070591730234615865843651857942052864:=by
   rw [Int.natAbs_mul];exact Nat.mul_le_mul (show x.natAbs<=9223372036854775808 by omega) (show y.natAbs<=9223372036854775808 by omega)
  omega
 have g: ∀z:Int,z.fdiv (2^63)=z/9223372036854775808:=fun z=>by
  rw [show(2:Int) ^63=9223372036854775808 by decide];exact h4T _ (by omega)
 have m:h=x*y/18446744073709551616\/h=x*y/18446744073709551616+18446744073709551616:=by
  rw [l];unfold a0Q
  rcases h5L x 0 with p|p<;>rcases h5L y 0 with q|q
  ·rw [if_pos p,if_pos q,show x%18446744073709551616=x+18446744073709551616 by omega,show y%18446744073709551616=y+18446744073709551616 by omega,
    show(x+18446744073709551616)*(y+18446744073709551616)=x*y+18446744073709551616*x+18446744073709551616*y+340282366920938463463374607431768211456 by grind]
   right
   omega
  ·rw [if_pos p,if_neg (by omega),show x%18446744073709551616=x+18446744073709551616 by omega,show y%18446744073709551616=y by omega,
    show(x+18446744073709551616)*y=x*y+18446744073709551616*y by grind]
   left
   omega
  ·rw [if_neg (by omega),if_pos q,show x%18446744073709551616=x by omega,show y%18446744073709551616=y+18446744073709551616 by omega,
    show x*(y+18446744073709551616)=x*y+18446744073709551616*x by grind]
   left
   omega
  ·rw [if_neg (by omega),if_neg (by omega),show x%18446744073709551616=x by omega,show y%18446744073709551616=y by omega]
   left
   omega
 rw [g,w64,w64];unfold iT
 generalize x*y=z at*
 rw [h5Z];simp only [beq_iff_eq,h0Y,decide_eq_true_eq];omega
theorem b5D{x y:Int}(T:0<=x)(m:x<=18446744073709551615)(D:0<=y)(u:y<=18446744073709551615):
  IntKind.wrap IntKind.u64
   (IntKind.wrap IntKind.u64
     (IntKind.wrap IntKind.u64 (Int.fdiv x (4294967296:Int)*Int.fdiv y (4294967296:Int))+
      Int.fdiv
       (IntKind.wrap IntKind.u64
        (IntKind.wrap IntKind.u64 (Int.fdiv x (4294967296:Int)*dH IntKind.u64 y (4294967295:Int))+
         Int.fdiv (IntKind.wrap IntKind.u64 (dH IntKind.u64 x (4294967295:Int)*dH IntKind.u64 y (4294967295:Int))) (4294967296:Int)))
       (4294967296:Int))+
    Int.fdiv
     (IntKind.wrap IntKind.u64
      (dH IntKind.u64
        (IntKind.wrap IntKind.u64
         (IntKind.wrap IntKind.u64 (Int.fdiv x (4294967296:Int)*dH IntKind.u64 y (4294967295:Int))+
          Int.fdiv (IntKind.wrap IntKind.u64 (dH IntKind.u64 x (4294967295:Int)*dH IntKind.u64 y (4294967295:Int))) (4294967296:Int)))
        (4294967295:Int)+
       IntKind.wrap IntKind.u64 (dH IntKind.u64 x (4294967295:Int)*Int.fdiv y (4294967296:Int))))
     (4294967296:Int))=a0Q x y:=by
 have f: ∀z:Int,z.fdiv 4294967296=z/4294967296:=fun z=>h4T _ (by omega)
 rw [<-d4N T m D u];simp only [d4M,f,a1F];have j:0<=x%4294967296/\x%4294967296<=4294967295:=by omega
 have l:0<=x/4294967296/\x/4294967296<=4294967295:=by omega
 have i:0<=y%4294967296/\y%4294967296<=4294967295:=by omega
 have g:0<=y/4294967296/\y/4294967296<=4294967295:=by omega
 generalize x%4294967296=x0 at*
 generalize x/4294967296=x1 at*
 generalize y%4294967296=y0 at*
 generalize y/4294967296=y1 at*
 have a:=vA j.1 j.2 i.1 i.2;have b:=vA j.1 j.2 g.1 g.2;have c:=vA l.1 l.2 i.1 i.2;have d:=vA l.1 l.2 g.1 g.2;generalize x0*y0=p at*
 generalize x0*y1=q at*
 generalize x1*y0=r at*
 generalize x1*y1=s at*
 have O:p%18446744073709551616=p:=by omega
 have A:q%18446744073709551616=q:=by omega
 have K:r%18446744073709551616=r:=by omega
 have G:s%18446744073709551616=s:=by omega
 rw [O,A,K,G];have L:(r+p/4294967296)%18446744073709551616=r+p/4294967296:=by omega
 rw [L];omega
theorem d4O(a b:Int):IntKind.i64.wrap (IntKind.u64.wrap (IntKind.u64.wrap a*IntKind.u64.wrap b))=IntKind.i64.wrap (a*b):=by
 rw [a1F,a1F,a1F,<-Int.mul_emod,w64,w64];omega
theorem d0V(a b:Int):IntKind.i64.wrap (IntKind.i64.wrap a-b)=IntKind.i64.wrap (a-b):=by
 rw [w64,w64,w64];omega
theorem a2Z{x:Int}(k p:Nat)(g:2^k=p)(h:(p:Int)<=x):fX x.toNat=k+fX (x/p).toNat:=by
 subst g;have i:0<=x:=by
  have:0<2^k:=h9B (by omega);omega
 obtain⟨n,rfl⟩:=Int.eq_ofNat_of_zero_le i;rw [c0U (n:=(n:Int).toNat) (k:=k) (by omega)]
 congr 2
theorem wY{x y h:Int}(j:bJ x)(i:bJ y)(g:h=a0Q (IntKind.u64.wrap x) (IntKind.u64.wrap y)- (if x<0 then y else 0)- (if y<0 then x else 0)):
  (IntKind.i64.wrap h==(IntKind.i64.wrap (x*y)).fdiv 9223372036854775808)=iT (x*y):=by
 rw [a1F,a1F]at g;have:=e5Q j i g
 rwa [show(2:Int) ^63=9223372036854775808 by decide]at this
def lN(o a b c d:Int):Int×Int:=
 if o=9 then if 0<=a/\0<=c then(0,min b d)else if 0<=a then(0,b)else if 0<=c then(0,d)else(fK,fW)
 else if a<0\/c<0 then(fK,fW)
 else(if o=10 then max a c else 0,b0T (max b d))
theorem c5Y{m:Int}(r:0<=m)(h1:m<=9223372036854775807):
  IntKind.i64.wrap (IntKind.i64.wrap (1*2^ (min (IntKind.u64.wrap (fX m.toNat:Int)).toNat 64))-1)=b0T m:=by
 have g:fX m.toNat<=63:=b0V (show m.toNat<2^63 by rw [show(2:Nat) ^63=9223372036854775808 by decide];omega);rw [a1F];have i:(min ((fX m.toNat:Int)%18446744073709551616).toNat 64)=fX m.toNat:=by omega
 rw [i];unfold b0T
 have j:2^fX m.toNat<=2^63:=h5R (by omega) g;rw [show(2:Nat) ^63=9223372036854775808 by decide]at j;have p:0<2^fX m.toNat:=h9B (by omega);have l:((2:Int) ^fX m.toNat)=((2^fX m.toNat:Nat):Int):=by simp
 rw [l];generalize 2^fX m.toNat=k at*
 rw [w64,w64];omega
def b5E(a b c d:Int):Int:=min (min a b) (min c d)
def b5F(a b c d:Int):Int:=max (max a b) (max c d)
def a6V(a b c d:Int):Int×Int:=
 if iT (a*c) &&iT (a*d) &&iT (b*c) &&iT (b*d)then(b5E (a*c) (a*d) (b*c) (b*d),b5F (a*c) (a*d) (b*c) (b*d))else(fK,fW)
def a6W(a b c d:Int):Int×Int:=
 if c<1 then(fK,fW)else(b5E (a.tdiv c) (a.tdiv d) (b.tdiv c) (b.tdiv d),b5F (a.tdiv c) (a.tdiv d) (b.tdiv c) (b.tdiv d))
def oT(o a b c d:Int):Int×Int:=
 if o<4\/19<o\/b<a\/d<c then(fK,fW)
 else if a=b/\c=d then(a1D o a c,a1D o a c)
 else if o=4 then bnd (a+c) (b+d)
 else if o=5 then bnd (a-d) (b-c)
 else if o=6 then a6V a b c d
 else if o=7 then a6W a b c d
 else if o=8 then a1E a b c d
 else if o=9\/o=10\/o=11 then lN o a b c d
 else if o=12\/o=13\/o=14 then uZ o a b c d
 else b0S o a b c d
end Go.M13
end
section
namespace Go.M13
def iC(r:Int×Int)(n:Int):Prop:=r.1<=n/\n<=r.2
theorem fP(n:Int)(h:bJ n):iC (fK,fW) n:=h
theorem lin{a b s:Int}(k:Int)(h1:a<=s)(h2:s<=b):min (a*k) (b*k)<=s*k/\s*k<=max (a*k) (b*k):=by
 rcases h5L k 0 with g|g
 ·have:=h6Y h1 (show k<=0 by omega);have:=h6Y h2 (show k<=0 by omega);omega
 ·have:=h4K h1 g;have:=h4K h2 g;omega
theorem iM{n:Int}(h:bJ n):IntKind.i64.wrap n=n:=by
 unfold bJ at h;exact h0X _ (by omega)
section
variable {a b c d s t:Int} (h1:a<=s) (h2:s<=b) (h3:c<=t) (h4:t<=d)
include h1 h2 h3 h4
theorem f2G:iC (a6V a b c d) (IntKind.i64.wrap (s*t)):=by
 unfold a6V
 split
 ·rename_i h;have i:=lin c h1 h2;have j:=lin d h1 h2;have g:=lin s h3 h4;rw [h6D t s,h6D c s,h6D d s]at g;unfold iT at h;simp only [h0Y,decide_eq_true_eq]at h;rw [iM (by unfold bJ;omega)];unfold iC b5E b5F
  simp only;omega
 ·exact fP _ (bX _)
theorem f2H:iC (bnd (a+c) (b+d)) (IntKind.i64.wrap (s+t)):=by
 unfold bnd
 split
 ·rename_i h;unfold iT at h;simp only [h0Y,decide_eq_true_eq]at h;rw [iM (by unfold bJ;omega)];unfold iC
  simp only;omega
 ·exact fP _ (bX _)
theorem f2I:iC (bnd (a-d) (b-c)) (IntKind.i64.wrap (s-t)):=by
 unfold bnd
 split
 ·rename_i h;unfold iT at h;simp only [h0Y,decide_eq_true_eq]at h;rw [iM (by unfold bJ;omega)];unfold iC
  simp only;omega
 ·exact fP _ (bX _)
end
theorem a3A{s t d:Int}(i:0<=s)(l:0<t)(g:t<=d):s.tdiv d<=s.tdiv t:=by
 rw [h4U i,h4U i];apply h8O l;have j:0<=s/d:=h8H i (by omega);have h1:s/d*t<=s/d*d:=h5G g j;have h2:s/d*d<=s:=Int.ediv_mul_le s (by omega);omega
theorem b5G{s t d:Int}(j:s<=0)(i:0<t)(g:t<=d):s.tdiv t<=s.tdiv d:=by
 have h:=a3A (s:= -s) (by omega) i g;rw [Int.neg_tdiv,Int.neg_tdiv]at h;omega
theorem b5H{s t:Int}(g:bJ s)(i:1<=t):wV s t=s.tdiv t:=by
 unfold wV
 rw [if_neg (by omega),if_neg (by omega),b0U g (by omega) (by omega)]
theorem f2J{a b c d s t:Int}(h1:a<=s)(h2:s<=b)(h3:c<=t)(h4:t<=d)(g:bJ s):iC (a6W a b c d) (wV s t):=by
 unfold a6W
 split
 ·refine fP _ ?_;unfold wV
  split
  ·unfold bJ;omega
  split<;>exact bX _
 ·rename_i p;rw [b5H g (by omega)];have l:a.tdiv t<=s.tdiv t:=Int.tdiv_le_tdiv (by omega) h1;have m:s.tdiv t<=b.tdiv t:=Int.tdiv_le_tdiv (by omega) h2;have j:min (a.tdiv c) (a.tdiv d)<=a.tdiv t:=by
   rcases h5L a 0 with q|q
   ·have:=b5G (s:=a) (by omega) (show 0<c by omega) h3;omega
   ·have:=a3A (s:=a) (by omega) (show 0<t by omega) h4;omega
  have i:b.tdiv t<=max (b.tdiv c) (b.tdiv d):=by
   rcases h5L b 0 with q|q
   ·have:=b5G (s:=b) (by omega) (show 0<t by omega) h4;omega
   ·have:=a3A (s:=b) (by omega) (show 0<c by omega) h3;omega
  unfold iC b5E b5F
  simp only;omega
theorem d4P{s t:Int}(g:bJ s)(j:1<=t):IntKind.i64.wrap (s-IntKind.i64.wrap (wV s t*t))=s.tmod t:=by
 rw [b5H g j];have h:=Int.mul_tdiv_add_tmod s t;rw [h6D]at h;have m:(s.tmod t).natAbs<=s.natAbs:=by
  rw [h8I];exact Nat.mod_le _ _
 have l:(0<=s->0<=s.tmod t)/\(s<=0->s.tmod t<=0):=by
  refine⟨fun q=>h6Z _ q,fun q=>?_⟩;have:=h6Z (a:= -s) t (by omega);rw [Int.neg_tmod]at this;omega
 unfold bJ at g;have i:IntKind.i64.wrap (s.tdiv t*t)=s.tdiv t*t:=iM (by unfold bJ;omega);rw [i];rw [iM (by unfold bJ;omega)];omega
theorem f2K{a b c d s t:Int}(h1:a<=s)(h2:s<=b)(h3:c<=t)(h4:t<=d)(g:bJ s):
  iC (a1E a b c d) (if t=0 then 0 else IntKind.i64.wrap (s-IntKind.i64.wrap (wV s t*t))):=by
 unfold a1E
 split
 ·refine fP _ ?_;split
  ·unfold bJ;omega
  ·exact bX _
 ·rename_i j;rw [if_neg (show¬t=0 by omega),d4P g (by omega)];have l:(s.tmod t).natAbs<=s.natAbs:=by
   rw [h8I];exact Nat.mod_le _ _
  have m:(s.tmod t).natAbs<t.natAbs:=by
   rw [h8I];exact h7O _ (by omega)
  have i:(0<=s->0<=s.tmod t)/\(s<=0->s.tmod t<=0):=by
   refine⟨fun q=>h6Z _ q,fun q=>?_⟩;have:=h6Z (a:= -s) t (by omega);rw [Int.neg_tmod]at this;omega
  unfold iC
  refine⟨?_,?_⟩<;>dsimp only<;>split<;>omega
theorem zE{a:Int}(g:0<=a)(h1:a<=9223372036854775807):(BitVec.ofInt 64 a).toNat=a.toNat:=by
 rw [BitVec.toNat_ofInt];omega
theorem a8G{s t:Int}(g:0<=s)(h1:s<=9223372036854775807):0<=a1C s t/\a1C s t<=s:=by
 unfold a1C
 have e:IntKind.i64.bits=64:=rfl;rw [e,BitVec.toNat_and,zE g h1];have h:=Nat.and_le_left (n:=s.toNat) (m:=(BitVec.ofInt 64 t).toNat);rw [iM (by unfold bJ;omega)];omega
theorem a3B{s t:Int}(g:0<=t)(h1:t<=9223372036854775807):0<=a1C s t/\a1C s t<=t:=by
 unfold a1C
 have e:IntKind.i64.bits=64:=rfl;rw [e,BitVec.toNat_and,zE g h1];have h:=Nat.and_le_right (n:=(BitVec.ofInt 64 s).toNat) (m:=t.toNat);rw [iM (by unfold bJ;omega)];omega
theorem qC{m x:Int}(g:0<=x)(h1:x<=m):x.toNat<2^fX m.toNat:=by
 have:=e5P m.toNat;omega
theorem a8H{m:Int}(h1:m<=9223372036854775807):2^fX m.toNat<=9223372036854775808:=by
 have g:fX m.toNat<=63:=b0V (show m.toNat<2^63 by rw [show(2:Nat) ^63=9223372036854775808 by decide];omega);have:=h5R (show 0<2 by omega) g
 rwa [show(2:Nat) ^63=9223372036854775808 by decide]at this
theorem f2L{s t m:Int}(g:0<=s)(h1:0<=t)(j:s<=m)(u:t<=m)(i:m<=9223372036854775807):s<=ior s t/\t<=ior s t/\ior s t<=b0T m:=by
 unfold ior b0T
 have e:IntKind.i64.bits=64:=rfl;rw [e,BitVec.toNat_or,zE g (by omega),zE h1 (by omega)];have l:=Nat.or_lt_two_pow (qC g j) (qC h1 u);have p:=Nat.left_le_or (n:=s.toNat) (m:=t.toNat);have q:=Nat.right_le_or (n:=s.toNat) (m:=t.toNat);have k:=a8H i;generalize s.toNat|||t.toNat=r at*
 generalize 2^fX m.toNat=z at*
 rw [iM (by unfold bJ;omega)];omega
theorem e5R{s t m:Int}(g:0<=s)(h1:0<=t)(j:s<=m)(p:t<=m)(i:m<=9223372036854775807):0<=d0T s t/\d0T s t<=b0T m:=by
 unfold d0T b0T
 have e:IntKind.i64.bits=64:=rfl;rw [e,BitVec.toNat_xor,zE g (by omega),zE h1 (by omega)];have l:=Nat.xor_lt_two_pow (qC g j) (qC h1 p);have k:=a8H i;generalize s.toNat^^^t.toNat=r at*
 generalize 2^fX m.toNat=z at*
 rw [iM (by unfold bJ;omega)];omega
theorem b5I(s t:Int):bJ (a1C s t):=bX _
theorem c5Z(s t:Int):bJ (ior s t):=bX _
theorem b5J(s t:Int):bJ (d0T s t):=bX _
theorem f2M{o a b c d s t:Int}(g:o=9\/o=10\/o=11)(h1:a<=s)(h2:s<=b)(h3:c<=t)(h4:t<=d)(i:b<=9223372036854775807)(hd:d<=9223372036854775807):
  iC (lN o a b c d) (if o=9 then a1C s t else if o=10 then ior s t else d0T s t):=by
 rcases g with rfl|rfl|rfl
 ·rw [if_pos rfl];unfold lN
  rw [if_pos rfl];split
  ·have p:=a8G (s:=s) (t:=t) (by omega) (by omega);have q:=a3B (s:=s) (t:=t) (by omega) (by omega);unfold iC;simp only;omega
  split
  ·have p:=a8G (s:=s) (t:=t) (by omega) (by omega);unfold iC;simp only;omega
  split
  ·have q:=a3B (s:=s) (t:=t) (by omega) (by omega);unfold iC;simp only;omega
  ·exact fP _ (b5I _ _)
 ·rw [if_neg (by decide),if_pos rfl];unfold lN
  rw [if_neg (by decide)];split
  ·exact fP _ (c5Z _ _)
  ·have:=f2L (s:=s) (t:=t) (m:=max b d) (by omega) (by omega) (by omega) (by omega) (by omega);rw [if_pos rfl];unfold iC;simp only;omega
 ·rw [if_neg (by decide),if_neg (by decide)];unfold lN
  rw [if_neg (by decide)];split
  ·exact fP _ (b5J _ _)
  ·have:=e5R (s:=s) (t:=t) (m:=max b d) (by omega) (by omega) (by omega) (by omega) (by omega);rw [if_neg (by decide)];unfold iC;simp only;omega
theorem rZ(z:Int){p:Int}(g:0<p):z.fdiv p=z/p:=h4T _ (by omega)
theorem c6A{a p:Int}(g:0<p)(i:p<=9223372036854775808)(h:c0T a p=true):a2Y a p=a*p:=by
 unfold c0T at h;simp only [beq_iff_eq]at h;rw [rZ _ g]at h;have h1:=Int.mul_ediv_add_emod (a2Y a p) p;have h2:=h3K (a2Y a p) (show p≠0 by omega);have h3:=h3J (a2Y a p) g;rw [h,h6D]at h1;unfold a2Y at*
 rw [w64]at*
 omega
theorem f2N{a b s p:Int}(j:0<p)(g:p<=9223372036854775808)(h1:a<=s)(h2:s<=b)(m:c0T a p=true)(r:c0T b p=true):
  iC (a2Y a p,a2Y b p) (IntKind.i64.wrap (s*p)):=by
 have l:=c6A j g m;have i:=c6A j g r;have y:bJ (a*p):=l▸bX _;have u:bJ (b*p):=i▸bX _;have z:=h4K h1 (show 0<=p by omega);have A:=h4K h2 (show 0<=p by omega);unfold bJ at y u;rw [iM (by unfold bJ;omega)];exact⟨by rw [l];exact z,by rw [i];exact A⟩
theorem qD{a s p:Int}(g:0<p)(h:a<=s):a/p<=s/p:=Int.ediv_le_ediv g h
theorem qE{s p:Int}(g:0<p):(0<=s->0<=s/p/\s/p<=s)/\(s<0->s<=s/p/\s/p<= -1):=by
 refine⟨fun h=>⟨h8H h (by omega),Int.ediv_le_self p h⟩,fun h=>⟨?_,?_⟩⟩
 ·apply h8O g;have h1:=Int.mul_le_mul_of_nonpos_left (show s<=0 by omega) (show(1:Int)<=p by omega);omega
 ·have:s/p<0:=Int.ediv_neg_of_neg_of_pos h g;omega
theorem d0W{k:Nat}(g:k<=64):(2:Int) ^ (64-k)*2^k=18446744073709551616:=by
 rw [<-Int.pow_add,show 64-k+k=64 by omega];decide
theorem b5K(k:Nat):(0:Int)<2^k:=h9C (by omega)
theorem d4Q{k:Nat}(g:k<=63):(2:Int) ^k<=9223372036854775808:=by
 have h:=h5R (show 0<2 by omega) g;rw [show(2:Nat) ^63=9223372036854775808 by decide]at h;have i:((2:Int) ^k)=((2^k:Nat):Int):=by simp
 omega
theorem g0S{o a b c d s t:Int}(O:o=12\/o=13\/o=14)(h1:a<=s)(h2:s<=b)(h3:c<=t)(h4:t<=d)(G:bJ s)(V:b<=9223372036854775807)(Z: -9223372036854775808<=a):
  iC (uZ o a b c d) (wX o s t):=by
 unfold wX
 have D:min (b0R t).toNat IntKind.i64.bits=(t%64).toNat:=by
  rw [e5O,f2F];omega
 have y:min (b0R t).toNat IntKind.u64.bits=(t%64).toNat:=D;rw [D,y,a1F];have i:(t%64).toNat<=63:=by omega
 generalize hk:(t%64).toNat=k at*
 have g:=b5K k;have p:=d4Q i;have m:=d0W (k:=k) (by omega);unfold bJ at G;rw [rZ _ g,rZ _ g];rcases O with rfl|rfl|rfl
 ·rw [if_pos rfl];unfold uZ
  rw [if_pos rfl];split
  ·rename_i l;obtain rfl:t=c:=by omega
   rw [hk];split
   ·rename_i j;exact f2N g p h1 h2 j.1 j.2
   ·exact fP _ (bX _)
  ·exact fP _ (bX _)
 ·rw [if_neg (by decide),if_pos rfl];unfold uZ
  rw [if_neg (by decide),if_neg (by decide)];split
  ·rename_i l;obtain rfl:t=c:=by omega
   split
   ·rename_i L;have r:k=0:=by omega
    subst r;rw [Int.pow_zero,Int.ediv_one,w64];unfold iC;simp only;omega
   ·rename_i L;split
    ·rw [hk,rZ _ g,rZ _ g];have e:s%18446744073709551616=s:=by omega
     rw [e];have q:=(qE (s:=s) g).1 (by omega);rw [iM (by unfold bJ;omega)];exact⟨qD g h1,qD g h2⟩
    ·have A:(64-t%64).toNat=64-k:=by omega
     rw [A];have Y:=b5K (64-k);have T:=d4Q (k:=64-k) (by omega);have X:s%18446744073709551616/2^k<2^ (64-k):=Int.ediv_lt_of_lt_mul g (by rw [m];omega);have K:0<=s%18446744073709551616/2^k:=h8H (by omega) (by omega);generalize s%18446744073709551616/2^k=u at*
     generalize(2:Int) ^ (64-k)=v at*
     rw [w64,w64,w64];unfold iC;simp only;omega
  ·split
   ·have e:s%18446744073709551616=s:=by omega
    rw [e];have q:=(qE (s:=s) g).1 (by omega);rw [iM (by unfold bJ;omega)];unfold iC;simp only;omega
   ·exact fP _ (bX _)
 ·rw [if_neg (by decide),if_neg (by decide),if_pos rfl];unfold uZ
  rw [if_neg (by decide),if_pos rfl];split
  ·rename_i l;obtain rfl:t=c:=by omega
   rw [hk,rZ _ g,rZ _ g];exact⟨qD g h1,qD g h2⟩
  ·have q:=qE (s:=s) g;unfold iC;simp only
   rcases h5L s 0 with z|z
   ·have:=q.2 z;omega
   ·have:=q.1 z;omega
theorem f2O{o a b c d s t:Int}(l:15<=o/\o<=19)(h1:a<=s)(h2:s<=b)(h3:c<=t)(h4:t<=d)(i:bJ s)(j:bJ t):
  iC (b0S o a b c d) (wX o s t):=by
 have g:o=15\/o=16\/o=17\/o=18\/o=19:=by omega
 unfold bJ at i j;unfold wX b0S tri iC dU mT
 rw [a1F,a1F];rcases g with rfl|rfl|rfl|rfl|rfl<;>simp only [Int.reduceEq,if_false,if_true,beq_iff_eq,bne_iff_ne,decide_eq_true_eq]<;>grind
theorem f2P{o a b c d s t:Int}(m:4<=o/\o<=19)(h1:a<=s)(h2:s<=b)(h3:c<=t)(h4:t<=d)(l:bJ a)(j:bJ b)(r:bJ c)(hd:bJ d):
  iC (oT o a b c d) (a1D o s t):=by
 have g:bJ s:=by unfold bJ at*;omega
 have p:bJ t:=by unfold bJ at*;omega
 unfold oT
 rw [if_neg (by omega)];split
 ·rename_i h;obtain rfl:s=a:=by omega
  obtain rfl:t=c:=by omega
  exact⟨h3P _,h3P _⟩
 ·have i:o=4\/o=5\/o=6\/o=7\/o=8\/ (o=9\/o=10\/o=11) \/ (o=12\/o=13\/o=14) \/15<=o:=by omega
  rcases i with rfl|rfl|rfl|rfl|rfl|h|h|h
  ·rw [if_pos rfl];exact f2H h1 h2 h3 h4
  ·rw [if_neg (by decide),if_pos rfl];exact f2I h1 h2 h3 h4
  ·rw [if_neg (by decide),if_neg (by decide),if_pos rfl];exact f2G h1 h2 h3 h4
  ·rw [if_neg (by decide),if_neg (by decide),if_neg (by decide),if_pos rfl];exact f2J h1 h2 h3 h4 g
  ·rw [if_neg (by decide),if_neg (by decide),if_neg (by decide),if_neg (by decide),if_pos rfl];exact f2K h1 h2 h3 h4 g
  ·rw [if_neg (by omega),if_neg (by omega),if_neg (by omega),if_neg (by omega),if_neg (by omega),if_pos h];have:=f2M h h1 h2 h3 h4 j.2 hd.2;unfold a1D
   rw [if_neg (by omega),if_neg (by omega),if_neg (by omega),if_neg (by omega),if_neg (by omega)];rcases h with rfl|rfl|rfl<;>exact this
  ·rw [if_neg (by omega),if_neg (by omega),if_neg (by omega),if_neg (by omega),if_neg (by omega),if_neg (by omega),if_pos h];unfold a1D
   rw [if_neg (by omega),if_neg (by omega),if_neg (by omega),if_neg (by omega),if_neg (by omega),if_neg (by omega),if_neg (by omega),if_neg (by omega)];exact g0S h h1 h2 h3 h4 g j.2 l.1
  ·rw [if_neg (by omega),if_neg (by omega),if_neg (by omega),if_neg (by omega),if_neg (by omega),if_neg (by omega),if_neg (by omega)];unfold a1D
   rw [if_neg (by omega),if_neg (by omega),if_neg (by omega),if_neg (by omega),if_neg (by omega),if_neg (by omega),if_neg (by omega),if_neg (by omega)];exact f2O ⟨h,m.2⟩ h1 h2 h3 h4 g p
theorem b0W{a:Int}(h:bJ a):c0S a= -1-a:=by
 unfold bJ at h;unfold c0S
 have e:IntKind.i64.bits=64:=rfl;have g:(if IntKind.i64.signed=true then(-1:Int)else IntKind.i64.max)= -1:=rfl;rw [g,e];have:(BitVec.ofInt 64 (-1) ^^^BitVec.ofInt 64 a)=BitVec.ofInt 64 (-1-a):=by
  have h1:BitVec.ofInt 64 (-1)=BitVec.allOnes 64:=by decide
  rw [h1,BitVec.allOnes_xor];apply BitVec.eq_of_toNat_eq;rw [BitVec.toNat_not,BitVec.toNat_ofInt,BitVec.toNat_ofInt];omega
 rw [this,BitVec.toNat_ofInt,w64];omega
theorem g0T{o a b s:Int}(j:o=20\/o=21)(h1:a<=s)(h2:s<=b)(i:bJ a)(g:bJ b):iC (iun o a b) (wun o s):=by
 have l:bJ s:=by unfold bJ at*;omega
 unfold iun
 rw [if_neg (by omega)];split
 ·obtain rfl:s=a:=by omega
  exact⟨h3P _,h3P _⟩
 ·rcases j with rfl|rfl
  ·rw [if_neg (by decide)];unfold wun
   rw [if_pos rfl];split
   ·exact fP _ (bX _)
   ·unfold bJ fK at*
    rw [w64,w64,w64];unfold iC;simp only;omega
  ·rw [if_pos rfl];unfold wun
   rw [if_neg (by decide),if_pos rfl,b0W l,b0W i,b0W g];unfold iC;simp only;omega
end Go.M13
end
section
namespace Go.M15
def bR(n:Int):Prop:= -9223372036854775808<=n/\n<=9223372036854775807
instance (n:Int):Decidable (bR n):=inferInstanceAs (Decidable (_/\_))
def ar(op:Int):Int:=
 if op=1\/op=2\/op=3\/op=26 then 0
 else if op=20\/op=21\/op=24\/op=25 then 1
 else if(4<=op/\op<=19) \/op=23\/op=27\/op=29 then 2
 else if op=22\/op=28 then 3
 else if op=30\/op=31 then-1 else 0
def oU(op:Int):Bool:=decide (1<=op/\op<=31)
end Go.M15
namespace Go.Pv
theorem aB{h:Heap}{id:Nat}{cs:List IV}{K:List IV->Prop}(e:h.get id= .cells cs)(g:K cs):aF h id K:=by
 unfold aF;rw [e];exact g
theorem bE{h:Heap}{id m:Nat}{K:Nat->Prop}(e:h.get id= .tip m)(g:K m):dG h id K:=by
 unfold dG;rw [e];exact g
theorem f2Q{sz:Nat}{g:Option Nat}{e n:Nat}{cs r:List IV}{K:Option Nat->Nat->Nat->List IV->Prop}(i:K g e n cs):bH sz (.vslice g e n sz cs::r) 0 K:=by
 unfold bH
 simpa using i
theorem aH{h:Heap}{id:Nat}{x:IObj} :(h.set id x).get id=x:=by rw [Heap.get_set,if_pos rfl]
theorem aE{h:Heap}{id j:Nat}{x:IObj}(g:j≠id):(h.set id x).get j=h.get j:=by rw [Heap.get_set,if_neg g]
theorem aR{h:Heap}{x:IObj} :(h.push x).get h.next=x:=by rw [Heap.get_push,if_pos rfl]
theorem aJ{h:Heap}{j:Nat}{x:IObj}(g:j<h.next):(h.push x).get j=h.get j:=by rw [Heap.get_push,if_neg (by omega)]
def HF(id:Nat)(h h':Heap):Prop:=h.next<=h'.next/\∀j,j<h.next->j≠id->h'.get j=h.get j
theorem HF.refl{id:Nat}{h:Heap} :HF id h h:=⟨h1D _,fun _ _ _=>rfl⟩
theorem HF.trans{id:Nat}{a b c:Heap}(x:HF id a b)(y:HF id b c):HF id a c:=
 ⟨h2F x.1 y.1,fun j i g=>by rw [y.2 j (h1C i x.1) g,x.2 j i g]⟩
theorem HF.set{id:Nat}{h:Heap}{x:IObj} :HF id h (h.set id x):=⟨h1D _,fun j _ g=>aE g⟩
theorem HF.push{id:Nat}{h:Heap}{x:IObj} :HF id h (h.push x):=⟨h4E _,fun j g _=>aJ g⟩
end Go.Pv
namespace Go.M15
open Go.Pv
end Go.M15
namespace Go.Pv
open Go.M15
end Go.Pv
end
section
namespace Go.M15
open Go.Pv
def mxI(op:Int):Int:=if op=2 then 5 else if op=3 then 255 else if op=23\/op=28 then 3 else if op=27 then 1000016 else if op=30 then 7 else if op=31\/op=25 then 15 else-1
def lB(op n:Int):Bool:=decide (op=1\/ (op≠1/\mxI op<0/\n=0) \/ (op≠1/\¬mxI op<0/\0<=n/\n<=mxI op/\(op≠27\/0<n)))
end Go.M15
namespace Go.Pv
theorem a8I(n:Nat):fF n [.int .i64 0]=(List.replicate n (0:Int)).map (IV.int .i64):=by
 induction n with
 |zero=>rfl
 |succ n ih=>simp [fF,ih,h5X]
end Go.Pv
end
section
namespace Go.M15
open Go.Pv
end Go.M15
namespace Go.Pv
open Go.M15
theorem fC{sz:Nat}{cs:List IV}{g:Nat}{A:Prop}{K:Nat->Nat->Nat->List IV->Prop}(e:cs[g]?=some .nilslice)(i:A):cK sz cs g A K:=by
 unfold cK;rw [e];exact i
theorem dI{sz:Nat}{cs:List IV}{g:Nat}{A:Prop}{K:Nat->Nat->Nat->List IV->Prop}{i:Nat}{a n:Nat}{c:List IV}(e:cs[g]?=some (.vslice (some i) a n sz c))(j:K i a n c):cK sz cs g A K:=by
 unfold cK;rw [e];simpa using j
theorem kW{sz:Nat}{cs:List IV}{g:Nat}{A:Prop}{K:Nat->Nat->Nat->Prop}(e:cs[g]?=some .nilslice)(i:A):cT sz cs g A K:=by
 unfold cT;rw [e];exact i
theorem cZ{sz:Nat}{cs:List IV}{g:Nat}{A:Prop}{K:Nat->Nat->Nat->Prop}{i a n:Nat}(e:cs[g]?=some (.hslice i a n sz))(j:K i a n):cT sz cs g A K:=by
 unfold cT;rw [e];simpa using j
theorem bF{k:IntKind}{cs:List IV}{g:Nat}{K:Int->Prop}{n:Int}(e:cs[g]?=some (.int k n))(i:K n):aK k cs g K:=by
 unfold aK;rw [e];simpa using i
end Go.Pv
namespace Go.M15
open Go.Pv
structure Nd where
 op:Int
 im:Int
 ks:List Int
 deriving DecidableEq,Inhabited
def okN(n:Nd):Prop:=bR n.op/\bR n.im/\∀k∈n.ks,bR k
def a1G(n:Nd):List Nd->Nat->Option Nat
 | [],_=>none
 |x::r,i=>if n=x then some i else a1G n r (i+1)
def fY(l:List Nd)(n:Nd):List Nd×Int:=match a1G n l 0 with
 |some i=>(l,i)
 |none=>(l++ [n],l.length)
end Go.M15
namespace Go.Pv
open Go.M15
def cN(n:Nd):List IV:=[.int .i64 n.op,.int .i64 n.im,.vslice none 0 n.ks.length 1 (n.ks.map (IV.int .i64))]
theorem gI: ∀{l:List Nd},aN (l.flatMap cN)=true
 | []=>rfl
 |x::r=>by
  rw [h2P,bG,gI,h1L];simp only [cN,aN,bL,cH,h1L]
theorem a8J{l:List Nd}{i j:Nat}(h:i<l.length)(g:j<3):(l.flatMap cN)[i*3+j]?=(cN l[i])[j]?:=by
 induction l generalizing i with
 |nil=>simp at h
 |cons x r ih=>
  cases i with
  |zero=>
   rw [h2P,h5K,h1Q,h1Z (by exact g)];rfl
  |succ i=>
   rw [h2P,h1V (by show 3<=_;omega),show(i+1)*3+j- (cN x).length=i*3+j by show(i+1)*3+j-3=_;omega];exact ih (by simpa using h)
theorem a6X{l:List Nd}{i o:Nat}{K:Int->Int->Option Nat->Nat->Nat->List IV->Prop}(h:i<l.length)(y:o=i*3)(m:K l[i].op l[i].im none 0 l[i].ks.length (l[i].ks.map (IV.int .i64))):
  aK .i64 (l.flatMap cN) o fun a=>aK .i64 (l.flatMap cN) (o+1) fun b=>bH 1 (l.flatMap cN) (o+1+1) fun p q r s=>K a b p q r s:=by
 subst y;have e0:=a8J (j:=0) h (by omega);have u:=a8J (j:=1) h (by omega);have g:=a8J (j:=2) h (by omega);unfold aK bH
 simp only [h6U]at e0;simp only [h5D,Nat.reduceAdd,e0,u,g];exact m
end Go.Pv
namespace Go.Pv
theorem jY{cs:List IV}{g id:Nat}{K:Nat->Prop}(e:cs[g]?=some (.map id))(i:K id):qY cs g K:=by
 unfold qY;rw [e];exact i
theorem sA{sz:Nat}{cs:List IV}{g:Nat}{K:Option Nat->Nat->Nat->List IV->Prop}{i:Option Nat}{a n:Nat}{c:List IV}(e:cs[g]?=some (.vslice i a n sz c))(j:K i a n c):bH sz cs g K:=by
 unfold bH;rw [e];simpa using j
theorem eQ{h:Heap}{id:Nat}{d:TypeDesc}{g v:IV}{i:List (IV×IV)}{K:List IV->Prop}{A:Prop}(e:h.get id= .map i)(f:fU d g i=some (some v))(j:K [v]):fV h id d g K A:=by
 unfold fV;rw [e];simp only [f];exact j
theorem iV{h:Heap}{id:Nat}{d:TypeDesc}{g:IV}{i:List (IV×IV)}{K:List IV->Prop}{A:Prop}(e:h.get id= .map i)(f:fU d g i=some none)(j:A):fV h id d g K A:=by
 unfold fV;rw [e];simp only [f];exact j
theorem gJ{h:Heap}{id:Nat}{d:TypeDesc}{g v:IV}{i es':List (IV×IV)}{K:List (IV×IV)->Prop}(e:h.get id= .map i)(f:oK d g v i=some es')(j:K es'):kS h id d g v K:=by
 unfold kS;rw [e];simp only [f];exact j
end Go.Pv
namespace Go.M15
open Go.Pv
def fH(op im:Int)(k:List Int):Int:=
 if oU op=false\/ (k.length:Int)≠ar op\/lB op im=false then 0
 else if op=3 then(if im%16=0 then 2 else 1)
 else if op=26 then 2
 else if op=22 then(if k.getD 0 0≠1\/k.getD 1 0≠k.getD 2 0\/k.getD 1 0=3 then 0 else k.getD 1 0)
 else if op=23 then(if k=[2,1]then 1 else 0)
 else if op=24 then(if k=[2]then 1 else 0)
 else if op=27\/op=29 then(if k=[2,1]then 2 else 0)
 else if op=28 then(if k=[2,1,1]then 2 else 0)
 else if k.all (fun x=>decide (x=1))=true then 1 else 0
def dL(g:List Int)(q:Int):Bool:=decide (0<=q) && (decide (q<g.length) &&decide (g.getD q.toNat 0≠0))
theorem sC{a b:List Int}(h:a<+:b){i:Nat}(g:i<a.length):b.getD i 0=a.getD i 0:=by
 obtain⟨r,rfl⟩:=h;simp only [h1A,h1Z g]
def SK(k:List Int)(id g:Nat)(h:Heap):Prop:=0<k.length/\h.get g= .tip k.length/\g<h.next/\g≠id
theorem a8K{g:List Int}{q:Int}(h:q<0):dL g q=false:=by
 unfold dL
 rw [decide_eq_false (by omega),h3Z]
theorem a8L{g:List Int}{q:Int}(h:(g.length:Int)<=q):dL g q=false:=by
 unfold dL
 rw [decide_eq_false (p:=q<_) (by omega),h3Z,h5M]
theorem a3F{g:List Int}{q:Int}(h:q.toNat<g.length)(i:g[q.toNat]=0):dL g q=false:=by
 have e:g.getD q.toNat 0=0:=by rw [h1A,h0U h];exact i
 unfold dL
 rw [e];simp
theorem a0R{g:List Int}{q:Int}(j:0<=q)(h:q.toNat<g.length)(i:g[q.toNat]≠0):dL g q=true/\g.getD q.toNat 0=g[q.toNat]:=by
 have e:g.getD q.toNat 0=g[q.toNat]:=by rw [h1A,h0U h];rfl
 unfold dL
 rw [e];refine⟨?_,rfl⟩;simp only [h0Y,decide_eq_true_eq];exact⟨j,by omega,i⟩
theorem d0X{op im:Int}{k:List Int}(h:op≠25/\op≠30/\op≠31):oU op=true->(k.length:Int)=ar op->lB op im=true->fH op im k=(if op=3 then(if im%16=0 then 2 else 1)else if op=26 then 2 else if op=22 then(if k.getD 0 0≠1\/k.getD 1 0≠k.getD 2 0\/k.getD 1 0=3 then 0 else k.getD 1 0)
  else if op=23 then(if k=[2,1]then 1 else 0)else if op=24 then(if k=[2]then 1 else 0)else if op=27\/op=29 then(if k=[2,1]then 2 else 0)else if op=28 then(if k=[2,1,1]then 2 else 0)else if k.all (fun x=>decide (x=1))=true then 1 else 0):=by
 intro h1 h2 h3;unfold fH
 rw [if_neg (by simp [h1,h2,h3])]
def c6B(op:Int):Prop:=op=1\/ (4<=op/\op<=22)
theorem d0Y{op im:Int}{k:List Int}(p:c6B op)(m:(k.length:Int)=ar op)(l:lB op im=true)(h1: ∀x∈k,x=1):fH op im k=1:=by
 unfold c6B at p;have j:oU op=true:=by unfold oU;rw [decide_eq_true_eq];omega
 unfold fH
 rw [if_neg (by simp [j,m,l]),if_neg (by omega),if_neg (by omega)]
 by_cases h22:op=22
 ·subst h22
  have h3:k.length=3:=by have:ar 22=3:=by decide
                         omega
  match k,h3 with
  | [a,b,c],_=>
   have u:=h1 a (by simp);have g:=h1 b (by simp);have i:=h1 c (by simp);subst u g i;rfl
 ·rw [if_neg h22,if_neg (by omega),if_neg (by omega),if_neg (by omega),if_neg (by omega),if_pos];rw [h2L];intro x r;simp [h1 x r]
end Go.M15
end
end
