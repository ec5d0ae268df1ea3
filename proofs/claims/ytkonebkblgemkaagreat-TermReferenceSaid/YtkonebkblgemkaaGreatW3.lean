/-
  Texts of this proof, one after the other.
  Conditions: none.
-/
import Derived.Test.YtkonebkblgemkaaGreatW2
set_option linter.unusedVariables false
set_option linter.unusedSimpArgs false
set_option maxRecDepth 100000
set_option maxHeartbeats 4000000
noncomputable section
variable{i j m b:Nat}{x y z u v:Int}{h g:Go.Pv.Heap}{c d l:List Go.Pv.IV}{K L:Y12}{p s t:Go.Pv.IV}{D:Go.Pv.Meta}{V W:List Go.Value}{T U:Go.TypeId}{o:Bool}{X Y:Go.Value}{O:Go.Oper}{N:Y10}{H:Array Go.Value}
section
namespace Go.Pv
section
variable {M:Meta} {h:Heap} {w:World}
def L3(g:Heap->IV->IV×Heap):Prop:=
 ∀(M:Meta)(h:Heap)(w:World)(v:IV)(r:Value),Inv M h w->VR M v r-> ∃M',Inv M' (g h v).2 w/\Pres w.heap.size M h w M' (g h v).2 w/\VR M' (g h v).1 r/\isCell (g h v).1=isCell v
theorem Qb{id l len sz:Nat}{cs:Y14}{r:Value}(a:Inv M h w)(L:h.get id= .cells cs)(h0:0<sz)(a0:l+len*sz<=cs.length)(hv:VR M (.hslice id l len sz) r):
  ∃M',Inv M' (h.set id .dead) w/\Pres w.heap.size M h w M' (h.set id .dead) w/\VR M' (.vslice none 0 len sz ((cs.drop l).take (len*sz))) r:=by
 obtain⟨b,rc,Z,l2,l3,l4,l5⟩:=a.cells id cs L
 cases hv with
 | @hslice _ _ _ _ cap b' ad hl z hlen=>
  rw [hl]at Z;simp at Z;subst Z;have X:id<h.next:=by
   rcases BC id h.next with q|q
   ·exact q
   ·rw [a.fresh id q]at L;simp at L
  let M':Meta:= {M with im:=fun c o=>if c=b' then rc[o]? else M.im c o }
  have hE:Ext M M':=⟨AJ _,fun _ _ x=>x,fun c o v x=>by
   simp only [M'];split
   ·rename_i V;subst V;rw [l5]at x;simp at x
   ·exact x,fun _ _ x=>x,fun _ _=>AJ _,fun _ _ _=>rfl⟩
  have g:(h.set id .dead).get id= .dead:=by rw [Heap.get_set,if_pos rfl]
  obtain⟨el,fz,T⟩:=l2.at_;have u:Inv M' (h.set id .dead) w/\Pres w.heap.size M h w M' (h.set id .dead) w:=by
   refine UpdS.done (S:=fun j=>j=id) (tb:=b') ?_ a;refine {
    get:=fun j O=>by rw [Heap.get_set,if_neg O],loc:=fun _ _=>rfl,tip:=fun _ _=>rfl,cur:=fun _ _=>rfl,heap:=fun _ _ _=>rfl,im:=fun c o V=>by simp [M',V],bsz:=fun _ _=>rfl,size:=AJ _,
    os:=rfl,tape:=rfl,output:=rfl,own:= .inl ⟨id,rfl,by simp [Wb,L,hl]⟩,wb:=?_,one:=fun i i' e e' _ _=>e.trans e'.symm,ext:=hE,nid:=a.nid,fresh:=?_,freshl:=a.freshl,imtb:=?_,bsztb:=fun n x=>a.bsz b' n x,cells:=?_,tips:=?_,maps:=?_,resv:=fun i hi e=>by subst hi;simp [Heap.get_set]at e }
   ·intro i c e ew;subst e;simp [Wb,g]at ew
   ·intro j O;rw [Heap.next_set]at O;rw [Heap.get_set,if_neg IM];exact a.fresh j O
   ·intro o v x;simp only [M',if_true]at x;simp only [World.cell?,T,DI,BA,if_false];exact x
   ·intro i cs' e D;subst e;rw [g]at D;simp at D
   ·intro i cs' e D;subst e;rw [g]at D;simp at D
   ·intro i cs' e D;subst e;rw [g]at D;simp at D
  have A:=((l4.drop l).take (len*sz)).mono hE;have p:((cs.drop l).take (len*sz)).length=len*sz:=by simp;omega
  refine⟨M',u.1,u.2,?_⟩;refine .vslice ad (fun i=>(((rc.toList.take cs.length).drop l).take (len*sz)).getD i undef) p hlen ?_ ?_ ?_ A.2 IP (fun _=> .inl rfl)
  ·rcases z with z| ⟨rfl,n,hn,K⟩
   ·exact .inl z
   ·exact .inr ⟨rfl,n,hn,K⟩
  ·intro i hi;rw [p]at hi;have G:cap≠0:=by
    intro e;have:len=0:=IM;subst this;simp at hi
   obtain⟨rfl,_⟩:=z.resolve_left G;have Y:l+i<rc.size:=IM;simp only [M',if_true,AN];rw [DP,if_pos hi,DQ,DP,if_pos IM];simp [Y]
  ·intro i hi;have:=A.1.2 i hi (by rw [<-A.len];exact hi);simp only [AN];rw [AA (by rw [<-A.len];exact hi)];exact this
theorem Qc:L3 qB:=by
 intro M h w v r a g
 by_cases e:qB h v=(v,h)
 ·rw [e];exact⟨M,a,Pres.refl _ _ _ _,g,rfl⟩
 ·cases v with
  |hslice id off len sz=>
   cases hg:h.get id with
   |cells cs=>
    by_cases hc:0<sz/\off+len*sz<=cs.length
    ·have i:qB h (.hslice id off len sz)=(.vslice none 0 len sz ((cs.drop off).take (len*sz)),h.set id .dead):=by
      simp only [qB,hg];rw [if_pos hc]
     rw [i];obtain⟨M',j,h2,l⟩:=Qb a hg hc.1 hc.2 g;exact⟨M',j,h2,l,rfl⟩
    ·exact absurd (by simp only [qB,hg];rw [if_neg hc]) e
   |tip n=>exact absurd (by simp only [qB,hg]) e
   |map es=>exact absurd (by simp only [qB,hg]) e
   |dead=>exact absurd (by simp only [qB,hg]) e
   |free=>exact absurd (by simp only [qB,hg]) e
  |_=>exact absurd rfl e
theorem zK{g:Heap->IV->IV×Heap}(A:L3 g): ∀(vs:Y14)(M:Meta)(h:Heap)(w:World)(rs:List Value),Inv M h w->cX M vs rs->
  ∃M',Inv M' (sT g h vs).2 w/\Pres w.heap.size M h w M' (sT g h vs).2 w/\cX M' (sT g h vs).1 rs/\(sT g h vs).1.length=vs.length/\((∀(i:Nat)(hi:i<vs.length),isCell vs[i]=true)-> ∀(i:Nat)(hi:i< (sT g h vs).1.length),isCell (sT g h vs).1[i]=true)
 | [],M,h,w,rs,a,hv=>⟨M,a,Pres.refl _ _ _ _,hv,rfl,fun l=>l⟩
 |v::vs,M,h,w,rs,a,hv=>by
  obtain⟨r,p,rfl,Y,h2⟩:=hv.uncons;obtain⟨D,K,u,L,O⟩:=A M h w v r a Y;obtain⟨G,T,z,V,c4,X⟩:=zK A vs D (g h v).2 w p K (h2.mono u.ext);refine⟨G,T,u.trans z,cX.cons (L.mono z.ext) V,by simp [sT,c4],fun l i hi=>?_⟩;simp only [sT]
  cases i with
  |zero=>
   have:=l 0 IP;simp only [FX]at this⊢;rw [O];exact this
  |succ i=>
   simp only [FY];exact X (fun j Z=>by have:=l (j+1) (by simpa using Z);simpa using this) i (by simpa [sT]using hi)
theorem zL:L3 zX:=by
 intro M h w v r a i
 cases v with
 |agg cs=>
  obtain⟨rc,rfl,g⟩:=wD i;obtain⟨M',j,l,p,c4,u⟩:=zK Qc cs M h w rc a g.1;exact⟨M',j,l,gK ⟨p,u g.2⟩,rfl⟩
 |_=>exact Qc M h w _ r a i
def mP(M:Meta)(id:Nat)(cs:Y14):Prop:= ∃(b:Nat)(rc:Array Value),M.loc id=some b/\cs.length<=rc.size/\(∀o v,rc[o]?=some v->M.im b o=some v)/\eB M cs (rc.toList.take cs.length)
theorem mP.mono{M M':Meta}{id:Nat}{cs:Y14}(h:mP M id cs)(g:Ext M M'):mP M' id cs:=by
 obtain⟨b,rc,i,h2,j,l⟩:=h;exact⟨b,rc,g.loc _ _ i,h2,fun o v e=>g.im _ _ _ (j o v e),l.mono g⟩
theorem mP.val{M:Meta}{id g len sz:Nat}{cs:Y14}{r:Value}(h:mP M id cs)(h0:0<sz)(G:g+len*sz<=cs.length)(L:VR M (.hslice id g len sz) r):VR M (.vslice none 0 len sz ((cs.drop g).take (len*sz))) r:=by
 obtain⟨b,rc,D,V,T,O⟩:=h
 cases L with
 | @hslice _ _ _ _ cap b' ad hl l hlen=>
  rw [hl]at D;simp at D;subst D;have p:=(O.drop g).take (len*sz);have j:((cs.drop g).take (len*sz)).length=len*sz:=by simp;omega
  refine .vslice ad (fun i=>(((rc.toList.take cs.length).drop g).take (len*sz)).getD i undef) j hlen ?_ ?_ ?_ p.2 IP (fun _=> .inl rfl)
  ·rcases l with l| ⟨rfl,n,K,A⟩
   ·exact .inl l
   ·exact .inr ⟨rfl,n,K,A⟩
  ·intro i hi;rw [j]at hi;have u:cap≠0:=by
    intro e;have:len=0:=IM;subst this;simp at hi
   obtain⟨rfl,_⟩:=l.resolve_left u;have z:g+i<rc.size:=IM;refine(T (g+i) rc[g+i] (by simp [z])).trans ?_;simp only [AN];rw [DP,if_pos hi,DQ,DP,if_pos IM];simp [z]
  ·intro i hi;have:=p.1.2 i hi (by rw [<-p.len];exact hi);simp only [AN];rw [AA (by rw [<-p.len];exact hi)];exact this
theorem d5O{id:Nat}{cs:Y14}(a:Inv M h w)(u:h.get id= .cells cs):
  ∃M',Inv M' (h.set id .dead) w/\Pres w.heap.size M h w M' (h.set id .dead) w/\mP M' id cs:=by
 obtain⟨b,rc,L,O,T,V,X⟩:=a.cells id cs u;have G:id<h.next:=by
  rcases BC id h.next with q|q
  ·exact q
  ·rw [a.fresh id q]at u;simp at u
 let M':Meta:= {M with im:=fun c o=>if c=b then rc[o]? else M.im c o }
 have K:Ext M M':=⟨AJ _,fun _ _ x=>x,fun c o v x=>by
  simp only [M'];split
  ·rename_i D;subst D;rw [X]at x;simp at x
  ·exact x,fun _ _ x=>x,fun _ _=>AJ _,fun _ _ _=>rfl⟩
 have g:(h.set id .dead).get id= .dead:=by rw [Heap.get_set,if_pos rfl]
 obtain⟨Y,fz,A⟩:=O.at_;have l:Inv M' (h.set id .dead) w/\Pres w.heap.size M h w M' (h.set id .dead) w:=by
  refine UpdS.done (S:=fun j=>j=id) (tb:=b) ?_ a;refine {
   get:=fun j z=>by rw [Heap.get_set,if_neg z],loc:=fun _ _=>rfl,tip:=fun _ _=>rfl,cur:=fun _ _=>rfl,heap:=fun _ _ _=>rfl,im:=fun c o D=>by simp [M',D],bsz:=fun _ _=>rfl,size:=AJ _,
   os:=rfl,tape:=rfl,output:=rfl,own:= .inl ⟨id,rfl,by simp [Wb,u,L]⟩,wb:=?_,one:=fun i Z e e' _ _=>e.trans e'.symm,ext:=K,nid:=a.nid,fresh:=?_,freshl:=a.freshl,imtb:=?_,bsztb:=fun n x=>a.bsz b n x,cells:=?_,tips:=?_,maps:=?_,resv:=fun i hi e=>by subst hi;simp [Heap.get_set]at e }
  ·intro i c e ew;subst e;simp [Wb,g]at ew
  ·intro j z;rw [Heap.next_set]at z;rw [Heap.get_set,if_neg IM];exact a.fresh j z
  ·intro o v x;simp only [M',if_true]at x;simp only [World.cell?,A,DI,BA,if_false];exact x
  ·intro i cs' e p;subst e;rw [g]at p;simp at p
  ·intro i cs' e p;subst e;rw [g]at p;simp at p
  ·intro i cs' e p;subst e;rw [g]at p;simp at p
 exact⟨M',l.1,l.2,b,rc,L,T,fun o v e=>by simp only [M',if_true];exact e,V.mono K⟩
def Jf(M:Meta)(h0 g:Heap):Prop:= ∀(id:Nat)(cs:Y14),h0.get id= .cells cs->g.get id= .cells cs\/mP M id cs
theorem Yz{h0:Heap}{v:IV}(a:Inv M h w)(l:Jf M h0 h): ∃M',Inv M' (tY h v) w/\Pres w.heap.size M h w M' (tY h v) w/\Jf M' h0 (tY h v)/\∀id off len sz cs,v= .hslice id off len sz->h0.get id= .cells cs->mP M' id cs:=by
 cases v with
 |hslice id off len sz=>
  cases hg:h.get id with
  |cells cs=>
   have e:tY h (.hslice id off len sz)=h.set id .dead:=by simp only [tY,hg]
   rw [e];obtain⟨M',p,h2,u⟩:=d5O a hg;have hf: ∀g,h0.get id= .cells g->mP M' id g:=fun g e0=>by
    rcases l id g e0 with q|q
    ·rw [hg]at q
     cases q
     exact u
    ·exact q.mono h2.ext
   refine⟨M',p,h2,fun i g e0=>?_,fun i _ _ _ g j e0=>by cases j;exact hf g e0⟩
   by_cases c:i=id
   ·subst c;exact .inr (hf g e0)
   ·rw [Heap.get_set,if_neg c];rcases l i g e0 with q|q
    ·exact .inl q
    ·exact .inr (q.mono h2.ext)
  |_=>
   have e:tY h (.hslice id off len sz)=h:=by simp only [tY,hg]
   rw [e];refine⟨M,a,Pres.refl _ _ _ _,l,fun i _ _ _ g j e0=>?_⟩
   cases j
   rcases l id g e0 with q|q
   ·rw [hg]at q;cases q
   ·exact q
 |_=>exact⟨M,a,Pres.refl _ _ _ _,l,fun i _ _ _ g j=>by cases j⟩
theorem b3N{h0:Heap}{v:IV}{r:Value}(hf: ∀id g len sz cs,v= .hslice id g len sz->h0.get id= .cells cs->mP M id cs)(i:VR M v r):VR M (mW h0 v) r:=by
 unfold mW
 split
 ·cases i
  exact .vnil
 ·cases i with
  |vslice ad rv hn hlen ha him hvv j ht hf=>exact .vslice ad rv hn hlen ha him hvv j IP (fun _=> .inl rfl)
  |vnil=>exact .vnil
 ·rename_i id g len sz;split
  ·rename_i cs l;split
   ·rename_i j;exact(hf id g len sz cs rfl l).val j.1 j.2 i
   ·exact i
  ·exact i
 ·exact i
theorem Vr(h0:Heap)(v:IV):isCell (mW h0 v)=isCell v:=by
 unfold mW
 split
 ·rfl
 ·rfl
 ·split
  ·split<;>rfl
  ·rfl
 ·rfl
theorem Qd{h0:Heap} : ∀(vs:Y14)(M:Meta)(g:Heap)(w:World)(rs:List Value),Inv M g w->Jf M h0 g->cX M vs rs->
  ∃M',Inv M' (Yq g vs) w/\Pres w.heap.size M g w M' (Yq g vs) w/\cX M' (vs.map (mW h0)) rs
 | [],M,g,w,rs,a,_,hv=>⟨M,a,Pres.refl _ _ _ _,hv⟩
 |v::vs,M,g,w,rs,a,hr,hv=>by
  obtain⟨r,j,rfl,L,h2⟩:=hv.uncons;obtain⟨p,z,i,A,D⟩:=Yz (v:=v) a hr;obtain⟨u,G,l,K⟩:=Qd vs p (tY g v) w j z A (h2.mono i.ext);exact⟨u,G,i.trans l,cX.cons ((b3N D (L.mono i.ext)).mono l.ext) K⟩
theorem b3O:L3 Iy:=by
 intro M h w v r a Y;obtain⟨p,g,j,u,l⟩:=zL M h w v r a Y;unfold Iy
 split
 ·rename_i e len sz cs h' V;rw [V]at g j u l;dsimp only at g j u l⊢
  cases u with
  |vnil=>exact⟨p,g,j,.vnil,l⟩
  |vslice ad rv D hlen ha him hvv hc ht hf=>
   have G:cX p cs ((List.range cs.length).map rv):=⟨IP,fun i T h2=>by simpa using hvv i T⟩;obtain⟨L,O,z,K⟩:=Qd (h0:=h') cs p h' w _ g (fun _ _ e=> .inl e) G;refine⟨L,O,j.trans z,?_,l⟩;have X:(cs.map (mW h')).length=cs.length:=BF ..;refine .vslice ad rv (X.trans D) hlen ?_ (fun i hi=>z.ext.im _ _ _ (him i IM)) (fun i hi=>?_) (fun i hi=>?_) IP hf
   ·rcases ha with ha| ⟨ha,n,D,A⟩
    ·exact .inl ha
    ·exact .inr ⟨ha,n,z.ext.bsz _ _ D,A⟩
   ·have:=K.2 i hi (by rw [<-K.1];exact hi);simpa using this
   ·rw [List.getElem_map,Vr];exact hc i IM
 ·exact⟨p,g,j,u,l⟩
theorem b3P(E:Env)(f:FuncId):L3 (if E.fd f=true then Iy else zX):=by
 split
 ·exact b3O
 ·exact zL
theorem b3Q:L3 d0K:=by
 intro M h w v r a g
 cases v with
 |tuple vs=>
  obtain⟨rc,rfl,p⟩:=Cd g;obtain⟨M',i,j,l,c4,u⟩:=zK zL vs M h w rc a p;exact⟨M',i,j,dV l,rfl⟩
 |_=>exact zL M h w _ r a g
theorem Qe{E:Env}{f:FuncId}{ts:List TypeId}{vs:Y14}{rs:List Value}(h:cX M vs rs):cX M (wC E f ts vs) rs:=by
 unfold wC
 split
 ·exact tZ h
 ·exact h
theorem Jg(E:Env)(f:FuncId){v:IV}{r:Value}(a:Inv M h w)(g:VR M v r): ∃M',Inv M' (iO E f v h).2 w/\Pres w.heap.size M h w M' (iO E f v h).2 w/\VR M' (iO E f v h).1 r:=by
 unfold iO
 split
 ·obtain⟨M',i,h2,j,_⟩:=b3Q M h w v r a g;exact⟨M',i,h2,j⟩
 ·exact⟨M,a,Pres.refl _ _ _ _,g⟩
end
section
variable {E:Env} {M:Meta} {w:World} {f:FuncId} {o:Oper} {ev:Operand->Option TV} {ρ:Operand->Value} {pb:Nat->Nat}
def c2C(E:Env)(M:Meta)(w:World)(o:Oper)(ρ:Operand->Value)(pb:Nat->Nat)(tv:TV)(bx:Option (Y14)):Prop:=
 (bx=none/\∃r,(execOp ρ o).run E.P w= .ok (.value r) w/\TR M pb tv r) \/
 (∃cs d rc el,bx=some cs/\o.dst=some d/\tv= .l d 0/\(execOp ρ o).run E.P w= .ok (.value (.pointer (some ⟨w.heap.size,0,none⟩))) (w.alloc (.cells rc el))/\eB M cs rc.toList) \/
 (bx=none/\∀h,Inv M h w-> ∃w' M' x r,tv= .v x/\(execOp ρ o).run E.P w= .ok (.value r) w'/\VR M' x r/\Inv M' h w'/\Pres w.heap.size M h w M' h w')
theorem c2C.val{x:IV}{r:Value}(h:(execOp ρ o).run E.P w= .ok (.value r) w)(g:VR M x r):c2C E M w o ρ pb (.v x) none:= .inl ⟨rfl,r,h,g⟩
theorem b3R(b4: ∀b o u,M.im b o=some u->w.cell? ⟨b,o,none⟩=some u)(hev: ∀x tv,ev x=some tv->TR M pb tv (ρ x)){tv:TV}{bx:Option (Y14)}
  (h:eA E f o ev=some (tv,bx)):c2C E M w o ρ pb tv bx:=by
 unfold eA at h
 cases hop:o.op with
 |move x=>
  simp only [hop]at h;split at h
  ·cases h
  obtain⟨a,l,h2⟩:=AD.1 h;simp at h2;obtain⟨rfl,rfl⟩:=h2;exact .inl ⟨rfl,ρ x,by simp [execOp,hop],hev _ _ l⟩
 |assign x=>
  simp only [hop]at h;obtain⟨a,l,h2⟩:=AD.1 h;simp at h2;obtain⟨rfl,rfl⟩:=h2;exact .inl ⟨rfl,ρ x,by simp [execOp,hop],hev _ _ l⟩
 |pick c a b=>
  simp only [hop]at h;split at h
  ·rename_i Z;obtain⟨q,l,h2⟩:=AD.1 h;simp at h2;obtain⟨rfl,rfl⟩:=h2;have a3:VR M (.bool true) (ρ c):=hev _ _ Z;generalize hρ:ρ c=rcv at a3
   cases a3
   exact .inl ⟨rfl,ρ a,by simp [execOp,hop,hρ,asBool],hev _ _ l⟩
  ·rename_i Z;obtain⟨q,l,h2⟩:=AD.1 h;simp at h2;obtain⟨rfl,rfl⟩:=h2;have a3:VR M (.bool false) (ρ c):=hev _ _ Z;generalize hρ:ρ c=rcv at a3
   cases a3
   exact .inl ⟨rfl,ρ b,by simp [execOp,hop,hρ,asBool],hev _ _ l⟩
  ·simp at h
 |alloc t=>
  simp only [hop]at h;split at h
  case h_2=>simp at h
  rename_i d hd;split at h
  case isFalse=>simp at h
  obtain⟨z,l,h2⟩:=AD.1 h;simp at h2;obtain⟨rfl,rfl⟩:=h2;obtain⟨i,r,D,G,h5,h6⟩:=eI (M:=M) l;refine .inr (.inl ⟨_,d,r.cells,t,rfl,hd,rfl,?_,iQ h5 h6⟩);simp only [execOp,hop];refine cG _ _ ?_;simp only [Instr.alloc,AU,cQ w D G,AL,newVar,Go.newRow,run_newObj,AZ];rfl
 |box t x=>
  simp only [hop]at h;split at h
  case h_2=>simp at h
  rename_i d v hd hv;split at h
  case isFalse=>simp at h
  rename_i Z;simp at h;obtain⟨rfl,rfl⟩:=h;refine .inr (.inl ⟨_,d,(ρ x).cells,t,rfl,hd,rfl,?_,iQ (bH hev hv) Z.2⟩);simp only [execOp,hop];refine cG _ _ ?_;simp only [Instr.box,newVar,Go.newRow,AU,run_newObj,AL,AZ];rfl
 |build t parts=>
  simp only [hop]at h;split at h
  case h_2=>simp at h
  rename_i z ps hz hp;have a6:PR M ps (parts.map fun(i,x)=>(i,ρ x)).toList:=by
   have:=uE (M:=M) hev hp;simpa using this
  split at h
  ·rename_i fs A;split at h
   case isFalse=>simp at h
   rename_i ha;obtain⟨cs,l,h2⟩:=AD.1 h;simp at h2;obtain⟨rfl,rfl⟩:=h2;obtain⟨r,D,G⟩:=Cj (P:=E.P) w hz a6 (.inl ⟨fs,A,ha,l⟩);exact .val (by simp only [execOp,hop];exact cG _ _ D) G
  ·rename_i n e A;split at h
   case h_2=>simp at h
   rename_i sz hs;obtain⟨cs,l,h2⟩:=AD.1 h;simp at h2;obtain⟨rfl,rfl⟩:=h2;obtain⟨r,D,G⟩:=Cj (P:=E.P) w hz a6 (.inr ⟨n,e,sz,A,hs,l⟩);exact .val (by simp only [execOp,hop];exact cG _ _ D) G
  ·simp at h
 |buildSlice t n parts=>
  simp only [hop]at h;split at h
  case h_2=>simp at h
  rename_i e d A hd;split at h
  case isFalse=>simp at h
  split at h
  case h_2=>simp at h
  rename_i sz z ps b9 hz hp;split at h
  case isFalse=>simp at h
  rename_i a2;obtain⟨cs,l,h2⟩:=AD.1 h;simp at h2;obtain⟨rfl,rfl⟩:=h2;have a6:PR M ps (parts.map fun(i,x)=>(i,ρ x)).toList:=by
   have:=uE (M:=M) hev hp;simpa using this
  obtain⟨ro,r1,r2,r3⟩:=qF (P:=E.P) (M:=M) w A b9 hz a2.1 a2.2 a6 l;have c2:eB M (match E.nf f with|true=>mK (rep n (sI E.P 8 e)) cs|false=>cs) ro.toList:=by
   split
   ·exact Cf r2
   ·exact r2
  have c3:(match E.nf f with|true=>mK (rep n (sI E.P 8 e)) cs|false=>cs).length=n*(sz+1):=by
   split
   ·rw [Ce];exact r3
   ·exact r3
  refine .inr (.inr ⟨rfl,fun h hI=>?_⟩);obtain⟨M',q1,q2,q3⟩:=b3H hI (NewBlk.alloc w (.cells ro e)) c3 IM c2;exact⟨_,M',_,_,rfl,by simp only [execOp,hop];exact cG _ _ r1,q3,q1,q2⟩
 |load t a=>
  simp only [hop]at h;split at h
  case h_2=>simp at h
  rename_i cs T ha;obtain⟨v,l,h2⟩:=AD.1 h;simp at h2;obtain⟨rfl,rfl⟩:=h2;have j:VR M (.vref cs T) (ρ a):=hev _ _ ha;generalize hρ:ρ a=ra at j
  cases j with
  | @vref _ _ b base rv him' hv Z=>
   have b7:eB M cs ((List.range cs.length).map rv):=⟨⟨IP,fun i p q=>by simpa using hv i p⟩,Z⟩;obtain⟨r,D,G⟩:=uA (P:=E.P) (w:=w) (b:=b) (base:=base) b7 (fun i hi=>by simp at hi;simpa using b4 _ _ _ (him' i hi)) l;exact .val (by simp only [execOp,hop,hρ,Instr.loadAt,Instr.sureAddr];exact cG _ _ (by simpa using D)) G
 |nilCheck x=>
  simp only [hop]at h;split at h
  ·rename_i s T Y;simp at h;obtain⟨rfl,rfl⟩:=h;have:ρ x= .pointer (some ⟨pb s,T,none⟩):=hev _ _ Y;exact .inl ⟨rfl,_,by simp [execOp,hop,this],rfl⟩
  ·rename_i id T Y;simp at h;obtain⟨rfl,rfl⟩:=h;have j:VR M (.ptr id T) (ρ x):=hev _ _ Y;generalize hρ:ρ x=ra at j;have L:=j
   cases j
   exact .val (by simp [execOp,hop,hρ]) L
  ·rename_i cs T Y;simp at h;obtain⟨rfl,rfl⟩:=h;have j:VR M (.vref cs T) (ρ x):=hev _ _ Y;generalize hρ:ρ x=ra at j;have L:=j
   cases j
   exact .val (by simp [execOp,hop,hρ]) L
  ·rename_i g a b Y;simp at h;obtain⟨rfl,rfl⟩:=h;have j:VR M (.func (.func g) a b) (ρ x):=hev _ _ Y;generalize hρ:ρ x=ra at j;have L:=j
   cases j
   exact .val (by simp [execOp,hop,hρ]) L
  ·rename_i t v Y;simp at h;obtain⟨rfl,rfl⟩:=h;have j:VR M (.iface t v) (ρ x):=hev _ _ Y;generalize hρ:ρ x=ra at j;have L:=j
   cases j
   exact .val (by simp [execOp,hop,hρ]) L
  ·simp at h
 |binOp op t x y u=>
  simp only [hop]at h;split at h
  case h_2=>simp at h
  rename_i a b ha hb;obtain⟨v,l,h2⟩:=AD.1 h;simp at h2;obtain⟨rfl,rfl⟩:=h2;obtain⟨r,D,G⟩:=Yw (P:=E.P) w x y rfl (bH hev ha) (bH hev hb) l;exact .val (by simp only [execOp,hop];exact cG _ _ D) G
 |unOp op t x=>
  simp only [hop]at h;split at h
  case h_2=>simp at h
  rename_i a ha;obtain⟨v,l,h2⟩:=AD.1 h;simp at h2;obtain⟨rfl,rfl⟩:=h2;obtain⟨r,D,G⟩:=b3F (P:=E.P) w (bH hev ha) l;exact .val (by simp only [execOp,hop];exact cG _ _ D) G
 |convert s d x=>
  simp only [hop]at h;split at h
  case h_2=>simp at h
  rename_i a ha;obtain⟨v,l,h2⟩:=AD.1 h;simp at h2;obtain⟨rfl,rfl⟩:=h2;obtain⟨r,D,G⟩:=Vp (P:=E.P) w b4 (bH hev ha) l;exact .val (by simp only [execOp,hop];exact cG _ _ D) G
 |makeInterface t x=>
  simp only [hop]at h;split at h
  case h_2=>simp at h
  rename_i a hi ha;simp at h;obtain⟨rfl,rfl⟩:=h;obtain⟨d,A,hd⟩:=mN hi;refine .val (r:= .iface t (ρ x)) ?_ (.iface (bH hev ha));simp only [execOp,hop];refine cG _ _ ?_
  cases d<;>first| (exact absurd (hd.1 ⟨_,rfl⟩) IP)|simp [Instr.makeInterface,run_underlying A]
 |makeFunc fn a b=>
  simp only [hop]at h;split at h
  case h_2=>simp at h
  rename_i xs ys Y hy;simp at h;obtain⟨rfl,rfl⟩:=h;refine .val (r:= .func fn (a.map ρ) (b.map ρ)) (by simp only [execOp,hop];exact cG _ _ (by simp [Instr.makeFunc])) ?_;have l:=kV hev Y;have h2:=kV hev hy;have:=zZ (fn:=fn) l h2;have e: ∀a:Array Operand,(a.toList.map ρ).toArray=a.map ρ:=fun a=>by apply EL;simp
  rwa [e,e]at this
 |slice t x lo hi mx=>
  simp only [hop]at h;split at h
  case h_2=>simp at h
  rename_i a ha;obtain⟨v,l,h2⟩:=AD.1 h;simp at h2;obtain⟨rfl,rfl⟩:=h2;obtain⟨r,D,G⟩:=Jc (P:=E.P) w (bH hev ha) (uF hev lo) (uF hev hi) l;exact .val (by simp only [execOp,hop];exact cG _ _ D) G
 |fieldAddr t x i=>
  simp only [hop]at h;split at h
  case h_2=>simp at h
  rename_i ft T a hf ha;split at h
  case h_2=>simp at h
  rename_i n hn;obtain⟨v,l,h2⟩:=AD.1 h;simp at h2;obtain⟨rfl,rfl⟩:=h2;obtain⟨fs,fx,A,a9,rfl,rfl⟩:=uG hf;obtain⟨ii,V,X⟩:=dN hn;obtain⟨ad,he,ht⟩:=yD l (hev _ _ ha);refine .inl ⟨rfl,_,?_,ht⟩;simp only [execOp,hop];refine cG _ _ ?_;simp [Instr.fieldAt,run_underlying A,a9,he,Instr.sureAddr,fieldPlace,cM V,X]
 |field t x i=>
  simp only [hop]at h;split at h
  case h_2=>simp at h
  rename_i ft T cs hf ha;obtain⟨v,l,h2⟩:=AD.1 h;simp at h2;obtain⟨rfl,rfl⟩:=h2;obtain⟨fs,fx,A,a9,rfl,rfl⟩:=uG hf;obtain⟨rc,hr,Z⟩:=wD (bH hev ha);obtain⟨r,D,G⟩:=Py (P:=E.P) (w:=w) Z l;refine .val ?_ G;simp only [execOp,hop];refine cG _ _ ?_;simp [Instr.field,run_underlying A,a9,hr,asAgg,D]
 |indexAddr t x ix=>
  simp only [hop]at h;split at h
  ·rename_i i n e hi A;obtain⟨k,hk⟩:=oI hi;have O:VR M (.int k i) (ρ ix):=hev _ _ hk;generalize hρi:ρ ix=ri at O
   cases O
   split at h
   case h_2=>simp at h
   rename_i sz a hs ha;split at h
   case isFalse=>simp at h
   rename_i hb;obtain⟨v,l,h2⟩:=AD.1 h;simp at h2;obtain⟨rfl,rfl⟩:=h2;obtain⟨ii,V,X⟩:=dN hs;obtain⟨ad,he,ht⟩:=yD l (hev _ _ ha);refine .inl ⟨rfl,_,?_,ht⟩;simp only [execOp,hop];refine cG _ _ ?_;simp [Instr.indexAt,run_underlying A,hρi,asIntOf,he,Instr.sureAddr,hb,cM V,X]
  ·rename_i i e hi A;obtain⟨k,hk⟩:=oI hi;have O:VR M (.int k i) (ρ ix):=hev _ _ hk;generalize hρi:ρ ix=ri at O
   cases O
   split at h
   ·rename_i sz c1 e' len z cs hs ha;split at h
    case isFalse=>simp at h
    rename_i hb;obtain⟨b1,b2,rfl⟩:=hb;simp at h;obtain⟨rfl,rfl⟩:=h;obtain⟨ii,V,X⟩:=dN hs;have j:=bH hev ha;generalize hρ:ρ x=ra at j
    cases j with
    |vnil=>omega
    | @vslice _ _ _ _ cap _ a rv hn hlen ha' him' hv Z ht hf=>
     have b5:=ha'.resolve_left IM;obtain⟨ab,ao,c7⟩:=a;obtain⟨a8,c6⟩:=b5;simp only at a8;subst a8;refine .inl ⟨rfl,.pointer (some ⟨ab,ao+i.toNat*z,none⟩),?_,VR.vref rv him' hv Z⟩;simp only [execOp,hop];refine cG _ _ ?_;simp [Instr.indexAt,run_underlying A,hρi,hρ,asIntOf,b1,b2,cM V,X,dH]
   ·rename_i sz c1 T len z hs ha;split at h
    case isFalse=>simp at h
    rename_i hb;obtain⟨b1,b2,rfl⟩:=hb;simp at h;obtain⟨rfl,rfl⟩:=h;obtain⟨ii,V,X⟩:=dN hs;have j:=bH hev ha;generalize hρ:ρ x=ra at j
    cases j with
    | @hslice _ _ _ _ cap b a hl ha' hlen=>
     obtain⟨rfl,b5⟩:=ha'.resolve_left IM;refine .inl ⟨rfl,.pointer (some ⟨b,T+i.toNat*z,none⟩),?_,VR.ptr hl⟩;simp only [execOp,hop];refine cG _ _ ?_;simp [Instr.indexAt,run_underlying A,hρi,hρ,asIntOf,b1,b2,cM V,X,dH]
   ·simp at h
  ·simp at h
 |index t x ix=>
  simp only [hop]at h;split at h
  ·rename_i i n e cs hi A ha;obtain⟨k,hk⟩:=oI hi;have O:VR M (.int k i) (ρ ix):=hev _ _ hk;generalize hρi:ρ ix=ri at O
   cases O
   split at h
   case h_2=>simp at h
   rename_i sz hs;split at h
   case isFalse=>simp at h
   rename_i hb;obtain⟨v,l,h2⟩:=AD.1 h;simp at h2;obtain⟨rfl,rfl⟩:=h2;obtain⟨ii,V,X⟩:=dN hs;obtain⟨rc,hr,Z⟩:=wD (bH hev ha);obtain⟨r,D,G⟩:=Py (P:=E.P) (w:=w) Z l;refine .val ?_ G;simp only [execOp,hop];refine cG _ _ ?_;simp [Instr.index,run_underlying A,hρi,hr,asIntOf,hb,cM V,X,D]
  ·rename_i i s hi A ha;obtain⟨k,hk⟩:=oI hi;have O:VR M (.int k i) (ρ ix):=hev _ _ hk;generalize hρi:ρ ix=ri at O
   cases O
   split at h
   case isFalse=>simp at h
   rename_i hb;obtain⟨v,l,h2⟩:=AD.1 h;simp at h2;obtain⟨rfl,rfl⟩:=h2;have j:=bH hev ha;generalize hρ:ρ x=ra at j
   cases j with
   |str b=>
    refine .val (r:= .int .u8 v.toNat) ?_ (.int _ _);simp only [execOp,hop];refine cG _ _ ?_;have b6:b[i.toNat]?=some v:=by
     have:i.toNat<b.size:=by
      have:=BB.1 l;simpa using this.1
     rw [getElem?_pos b i.toNat this];have h2:=l;rw [AA (by simpa using this)]at h2;simpa [ByteArray.getElem_eq_getElem_data]using h2
    simp [Instr.index,run_underlying A,hρi,hρ,asIntOf,hb,b6]
  ·simp at h
 |extract x i=>
  simp only [hop]at h;split at h
  case h_2=>simp at h
  rename_i vs ha;obtain⟨v,l,h2⟩:=AD.1 h;simp at h2;obtain⟨rfl,rfl⟩:=h2;obtain⟨rc,hr,Z⟩:=Cd (bH hev ha);obtain⟨r,D,G⟩:=Z.get l;refine .val ?_ G;simp only [execOp,hop];refine cG _ _ ?_;simp [Instr.extract,hr,D]
 |typeAssert x s t ok=>
  simp only [hop]at h;split at h
  ·rename_i u v hi ha;obtain⟨d,A,hd⟩:=mN hi;have j:=bH hev ha;generalize hρ:ρ x=ra at j
   cases j with
   | @iface _ _ rv hv=>
    have a4: ∀ms,d≠ .interface ms:=fun ms e=>absurd (hd.1 ⟨ms,e⟩) IP
    split at h
    ·rename_i b3;subst b3;split at h
     ·rename_i a0;simp at h;obtain⟨rfl,rfl⟩:=h;refine .val (r:= .tuple #[rv,.bool true]) ?_ (by simpa using dV (cX.cons hv (cX.cons (.bool true) (cX.nil M))));simp only [execOp,hop];refine cG _ _ ?_
      cases d<;>first| (exact absurd rfl (a4 _))|simp [Instr.typeAssert,run_underlying A,hρ,a0]
     ·rename_i a0;simp at h;obtain⟨rfl,rfl⟩:=h;refine .val (r:=rv) ?_ hv;simp only [execOp,hop];refine cG _ _ ?_
      cases d<;>first| (exact absurd rfl (a4 _))|simp [Instr.typeAssert,run_underlying A,hρ,a0]
    ·rename_i b3;split at h
     case isFalse=>simp at h
     rename_i a0;obtain⟨z,l,h2⟩:=AD.1 h;simp at h2;obtain⟨rfl,rfl⟩:=h2;obtain⟨i,r,D,G,h5,h6⟩:=eI (M:=M) l;refine .val (r:= .tuple #[r,.bool false]) ?_ (by simpa using dV (cX.cons h5 (cX.cons (.bool false) (cX.nil M))));simp only [execOp,hop];refine cG _ _ ?_
     cases d<;>first| (exact absurd rfl (a4 _))|simp [Instr.typeAssert,run_underlying A,hρ,a0,b3,cQ w D G]
  ·rename_i hi ha;obtain⟨d,A,hd⟩:=mN hi;have a4: ∀ms,d≠ .interface ms:=fun ms e=>absurd (hd.1 ⟨ms,e⟩) IP
   have j:=bH hev ha;generalize hρ:ρ x=ra at j
   cases j
   split at h
   case isFalse=>simp at h
   rename_i a0;obtain⟨z,l,h2⟩:=AD.1 h;simp at h2;obtain⟨rfl,rfl⟩:=h2;obtain⟨i,r,D,G,h5,h6⟩:=eI (M:=M) l;refine .val (r:= .tuple #[r,.bool false]) ?_ (by simpa using dV (cX.cons h5 (cX.cons (.bool false) (cX.nil M))));simp only [execOp,hop];refine cG _ _ ?_
   cases d<;>first| (exact absurd rfl (a4 _))|simp [Instr.typeAssert,run_underlying A,hρ,a0,cQ w D G]
  ·simp at h
 |call c=>
  obtain⟨a5,a7,a1⟩:=c;simp only [hop]at h
  cases a5 with
  |value x=>simp at h
  |invoke x n=>simp at h
  |builtin b=>
   cases b
   case len=>
    simp only at h;split at h
    case h_2=>simp at h
    rename_i t x ht Y;obtain⟨y,hy,c0⟩:=CJ.1 Y;have j:=bH hev c0;have h0:(a7.map ρ)[0]?=some (ρ y):=by simp [hy]
    have K: ∀r,(Builtin.len_ a1 o.type (a7.map ρ)).run E.P w= .ok r w->(execOp ρ o).run E.P w= .ok (.value r) w:=by
     intro r hr;simp only [execOp,hop,resolve,invoke,AU,AZ,AL,builtin,hr]
    generalize hρ:ρ y=ra at j h0;split at h
    ·rename_i s A;simp at h;obtain⟨rfl,rfl⟩:=h
     cases j
     refine .val (K _ (by simp [Builtin.len_,ht,hy,hρ,run_underlying A];rfl)) ?_;simpa [goInt]using VR.int (M:=M) _ _
    ·rename_i e A;simp at h;obtain⟨rfl,rfl⟩:=h
     cases j
     exact .val (K _ (by simp [Builtin.len_,ht,hy,hρ,run_underlying A];rfl)) (.int _ _)
    ·rename_i e i1 i2 len i3 A;simp at h;obtain⟨rfl,rfl⟩:=h;obtain⟨a,cap,rfl,_⟩:=oK j;exact .val (K _ (by simp [Builtin.len_,ht,hy,hρ,run_underlying A];rfl)) (.int _ _)
    ·rename_i e i1 i2 len i3 i4 A;simp at h;obtain⟨rfl,rfl⟩:=h;obtain⟨a,cap,rfl,_⟩:=oJ j;exact .val (K _ (by simp [Builtin.len_,ht,hy,hρ,run_underlying A];rfl)) (.int _ _)
    ·rename_i k e A;simp at h;obtain⟨rfl,rfl⟩:=h
     cases j
     exact .val (K _ (by simp [Builtin.len_,ht,hy,hρ,run_underlying A];rfl)) (.int _ _)
    ·rename_i n e A;simp at h;obtain⟨rfl,rfl⟩:=h;exact .val (K _ (by simp [Builtin.len_,ht,hy,run_underlying A];rfl)) (.int _ _)
    ·simp at h
   case min=>
    simp only at h;split at h
    case h_2=>simp at h
    rename_i x r Y;obtain⟨v,l,h2⟩:=AD.1 h;simp at h2;obtain⟨rfl,rfl⟩:=h2;obtain⟨q,c5,b0,v1,v2⟩:=(kV hev Y).uncons;obtain⟨s,D,G⟩:=Ck (P:=E.P) w v1 v2 l;refine .val (r:=s) ?_ G;simp only [execOp,hop,resolve,invoke,AU,AZ,AL,builtin,Builtin.min_,HL,b0,D]
   case max=>
    simp only at h;split at h
    case h_2=>simp at h
    rename_i x r Y;obtain⟨v,l,h2⟩:=AD.1 h;simp at h2;obtain⟨rfl,rfl⟩:=h2;obtain⟨q,c5,b0,v1,v2⟩:=(kV hev Y).uncons;obtain⟨s,D,G⟩:=Cl (P:=E.P) w v1 v2 l;refine .val (r:=s) ?_ G;simp only [execOp,hop,resolve,invoke,AU,AZ,AL,builtin,Builtin.max_,HL,b0,D]
   all_goals simp at h
 |_=>simp [hop]at h
end
section
variable {P:Program} {M:Meta} {h:Heap} {w:World}
theorem Cm{t j ty e:TypeId}{i:TypeInfo}(l:P.underlying t=some (.slice e))(hi:P.info? e=some i){base:Option Addr}{len cap:Nat}{r:Value}(hs:Src P i.size j r 0 [] w)(g:len<=cap):
  (Builtin.append_ #[t,j] ty #[.slice base len cap,r]).run P w= .ok (.slice base len cap) w:=by
 rcases hs.kind with⟨e',hk⟩|hk<;>cases base<;>simp [Builtin.append_,run_underlying l,run_underlying hk,sizeOf,typeInfo,hi,hs.len,g,hs.cells,storeCells]
theorem Za(l:List Value)(o:Nat)(c:List Value)(k:Nat)(g:k=o+c.length)(i:o<=l.length):(mM l o c).take k=l.take o++c:=by
 subst g;unfold mM
 rw [DU (by simp;omega)];rw [AP (by simp;omega)]
theorem Vs(a:Inv M h w){c5 sz D:Nat}{t tx ty e:TypeId}{i:TypeInfo}{du:TypeDesc}{s x v:IV}{rs rx:Value}(ht:P.underlying t=some (.slice e))(hi:P.info? e=some i)(K:i.size=sz+1)(b5:i.bytes=D+1)
  (hz:i.zero=some Y) (hzl:Y.cells.size=sz+1) (hu:P.underlying tx=some du) (hk:kM du=true) (hs:VR M s rs) (hx:VR M x rx) (happ:jN h c5 (sz+1) (D+1) s x=some (v,g)):
  ∃r w' M',(Builtin.append_ #[t,tx] ty #[rs,rx]).run P w= .ok r w'/\VR M' v r/\Inv M' g w'/\Pres w.heap.size M h w M' g w':=by
 unfold jN at happ
 cases hsrc:fL h (sz+1) x with
 |none=>simp [hsrc]at happ
 |some q=>
  obtain⟨n,xs⟩:=q;simp only [hsrc]at happ;obtain⟨l,hc,hS⟩:=Qa (P:=P) a hu hk hx hsrc;have c2:xs.length=n*(sz+1):=(S3 (P:=P) a hx hsrc).1;have A:l.length=n*(sz+1):=by rw [<-hc.len,c2]
  rw [<-K]at hS;have a1: ∀m,(Builtin.zeroCells Y.cells m).size=m*(sz+1):=fun m=>by rw [size_zeroCells,hzl]
  split at happ
  ·
   rename_i c9;subst c9;have c1:l=[]:=by simpa using A
   subst c1;have fin:v=s->g=h-> ∀base len cap,rs= .slice base len cap->len<=cap-> ∃r w' M',(Builtin.append_ #[t,tx] ty #[rs,rx]).run P w= .ok r w'/\VR M' v r/\Inv M' g w'/\Pres w.heap.size M h w M' g w':=by
    intro e1 e2 base len cap e3 b2;subst e1;subst e2;subst e3;exact⟨_,w,M,Cm ht hi hS b2,hs,a,Pres.refl _ _ _ _⟩
   split at happ
   ·simp at happ
    cases hs
    exact fin happ.1.symm happ.2.symm _ _ _ rfl (AJ _)
   ·split at happ
    case isFalse=>simp at happ
    simp at happ;obtain⟨ad,cap,e3,b2,_⟩:=oJ hs;exact fin happ.1.symm happ.2.symm _ _ _ e3 b2
   ·split at happ
    case isFalse=>simp at happ
    simp at happ;obtain⟨ad,cap,e3,b2⟩:=oK hs;exact fin happ.1.symm happ.2.symm _ _ _ e3 b2
   ·simp at happ
  ·rename_i c9;have hn:0<n:=IM;split at happ
   ·
    split at happ
    case isFalse=>simp at happ
    rename_i hb;simp only [AC]at happ
    cases hs
    have O:Builtin.nextslicecap (0+n) 0*i.bytes<=281474976710656:=growslice_fits IM (by rw [b5];simpa using hb);have a6:((0+n:Nat):Int)<=9223372036854775807:=by
     have:n*1<=n*(D+1):=EO _ IM;omega
    have u:=run_append_grow_src (P:=P) w t tx ty e i Y ht hi hz none 0 0 [] (run_firstCells_none w.drew i.size 0 0 0) rx n l hS IM a6 O;simp only [DY,BT]at u;have V:=grownCap_ge w n 0 e;have c7:grownCap w n 0 e*(sz+1)<=(l.toArray++Builtin.zeroCells Y.cells (grownCap w n 0 e-n)).size:=by
     simp only [ET,DX,A,a1];rw [<-Nat.add_mul];exact CE _ IM
    obtain⟨M',r1,r2,r3⟩:=nE a c5 (fz:=(0,0)) (qG w _) (.inl (AJ _)) c2 V c7 (by
     rw [c2,<-A];simpa using hc)
    rw [happ]at r1 r2 r3;exact⟨_,_,M',u,r3,r1,r2⟩
   ·
    rename_i len z' cs;split at happ
    case isFalse=>simp at happ
    rename_i L;obtain⟨rfl,hb⟩:=L;simp only [AC]at happ;have b6:(len+n)*(sz+1)=len*(sz+1)+n*(sz+1):=Nat.add_mul _ _ _
    cases hs with
    | @vslice _ _ _ _ cap _ ad rv a3 hlen had him hv hcc htp hfl=>
     have b9:cap=len:=by
      rcases hfl rfl with h0| ⟨_,h0,_⟩
      ·simp at h0
      ·exact h0
     subst b9;have O:Builtin.nextslicecap (cap+n) cap*i.bytes<=281474976710656:=growslice_fits IM (by rw [b5];exact hb);have a6:((cap+n:Nat):Int)<=9223372036854775807:=by
      have:(cap+n)*1<=(cap+n)*(D+1):=EO _ IM;omega
     have c0:eB M cs ((List.range cs.length).map rv):=⟨⟨IP,fun i p q=>by simpa using hv i p⟩,hcc⟩;have Z:((List.range cs.length).map rv).length=cap*i.size:=by rw [K];simp;omega
     have a4: ∀j v,((List.range cs.length).map rv)[j]?=some v->w.drew.cell? (ad.add j)=some v:=by
      intro j v G;obtain⟨h1,h2⟩:=BB.1 G;simp at h1 h2;have b4:cap≠0:=by
       intro e;subst e;simp at a3;rw [a3]at h1;simp at h1
      obtain⟨a5,_⟩:=had.resolve_left b4;obtain⟨ab,ao,c6⟩:=ad;simp only at a5;subst a5;rw [dH,<-h2];exact a.im _ _ _ (him j h1)
     have u:=run_append_grow_src (P:=P) w t tx ty e i Y ht hi hz (some ad) cap cap _ (run_firstCells_some w.drew i.size cap ad cap cap _ Z a4) rx n l hS IM a6 O;have V:=grownCap_ge w (cap+n) cap e;have a7:((((List.range cs.length).map rv)++l).toArray++Builtin.zeroCells Y.cells (grownCap w (cap+n) cap e- (cap+n))).size=grownCap w (cap+n) cap e*(sz+1):=by
      have h2:(cap+n)*(sz+1)+(grownCap w (cap+n) cap e- (cap+n))*(sz+1)=grownCap w (cap+n) cap e*(sz+1):=by
       rw [<-Nat.add_mul];congr 1;omega
      simp only [ET,DX,AH,Z,K,A,a1];omega
     have T:=c0.append hc;obtain⟨M',r1,r2,r3⟩:=nE a c5 (fz:=(0,0)) (cs:=cs++xs) (len:=cap+n) (sz:=sz+1) (qG w _) (.inl (AJ _)) (by simp;omega) V (by rw [a7];exact AJ _) (by
      have e1:(cs++xs).length=(((List.range cs.length).map rv)++l).length:=T.len;rw [GM,DU (by simpa using II e1),AP (by simpa using II e1.symm)];exact T)
     rw [happ]at r1 r2 r3;exact⟨_,_,M',u,r3,r1,r2⟩
   ·
    rename_i id e' len z' cs;split at happ
    case h_2=>simp at happ
    rename_i m hg;split at happ
    case isFalse=>simp at happ
    rename_i L;obtain⟨rfl,rfl,hb⟩:=L;simp only [AC,BY]at happ;obtain⟨rfl,rfl⟩:=happ;obtain⟨t0,b,d5,rc,t1,t2,t3,t4⟩:=a.tips id m hg
    cases hs with
    | @vslice _ _ _ _ cap _ ad rv a3 hlen had him hv hcc htp hfl=>
     obtain⟨p1,p0,p2,p3⟩:=htp id rfl;have b6:(len+n)*(sz+1)=len*(sz+1)+n*(sz+1):=Nat.add_mul _ _ _;have c8:0<n*(sz+1):=IK hn IM
     by_cases hroom:len+n<=cap
     ·obtain⟨a5,n0,a2,b7⟩:=had.resolve_left IM;have a8:=(p3 t0.symm).resolve_left IM;obtain⟨ab,ao,c6⟩:=ad;simp only at a5 a2 b7 a8 him;subst a5;rw [t1]at a8;simp at a8;obtain⟨rfl,rfl⟩:=a8;rw [t2.bsz]at a2;simp at a2;subst a2;have d2:(len+n)*(sz+1)<=cap*(sz+1):=CE _ hroom;obtain⟨el,fz,a9⟩:=t2.at_;have u:=run_append_room_src (P:=P) w t tx ty e i ht hi b ao len cap rx n l hS hroom
       (by
        intro j G;rw [A]at G;rw [K];simp [World.cell?,a9,show ao+len*(sz+1)+j<rc.size by omega])
       (by
        intro j G;rw [A]at G;rw [K];exact t2.free _ IM)
      rw [K]at u;obtain⟨c3,s1,s2⟩:=gU b l (ao+len*(sz+1)) w rc el fz a9 (by rw [A];omega);have a0:c3.size=rc.size:=by
       have:=congrArg List.length s2;rw [lZ _ _ _ (by rw [A];simp;omega)]at this;simpa using this
      have b0: ∀j,(w.setCells b (ao+len*(sz+1)) l).frozen? ⟨b,j,none⟩=w.frozen? ⟨b,j,none⟩:=fun j=>World.frozen?_setCells b _ _ _ _
      obtain⟨M',q1,q2,q3,q4,q5,q6,q7⟩:=Yy a (k:=n*(sz+1)) hg t1 t2 ⟨el,fz,s1⟩ (fun j G=>by rw [b0];exact t2.free j IM) a0 (by rw [a3];omega)
       (fun j G=>by
        rw [<-Array.getElem?_toList,<-Array.getElem?_toList,s2];unfold mM
        rw [BD (by simp;omega),BD (by simp;omega),DP,if_pos IM]) c8
       (fun k hk=>eX b _ _ _ k hk) (fO b _ _ _) (fP b _ _ _)
      refine⟨_,_,M',u,?_,q1,q2⟩;have hE:=q2.ext;refine .vslice ⟨b,ao,none⟩ (fun j=>if j<cs.length then rv j else l.getD (j-cs.length) undef) (by simp;omega) hroom (.inr ⟨rfl,rc.size,by rw [q6];exact t2.bsz,b7⟩) ?_ ?_ ?_ ?_ IP
      ·intro j G;simp only [AH]at G
       by_cases z:j<cs.length
       ·simp only [z,if_true];exact hE.im _ _ _ (him j z)
       ·simp only [z,if_false];have hq:=q7 (j-cs.length) IM;rw [show ao+cs.length+(j-cs.length)=ao+j by omega]at hq;rw [hq,<-Array.getElem?_toList,s2];unfold mM
        rw [BD (by simp;omega),BU (by simp;omega)];simp only [AW,EN];rw [show ao+j-min (ao+len*(sz+1)) rc.size=j-cs.length by omega];rw [AA IM];simp [show j-cs.length<l.length by omega]
      ·intro j G;simp only [AH]at G
       by_cases z:j<cs.length
       ·rw [HM z];simp only [z,if_true];exact(hv j z).mono hE
       ·rw [HE IM];simp only [z,if_false];have:=(hc.1.2 (j-cs.length) IM IM).mono hE;simpa [show j-cs.length<l.length by omega]using this
      ·intro j G;rw [IH];split
       ·exact hcc _ _
       ·exact hc.2 _ _
      ·intro k ek;simp at ek;subst ek;refine⟨by rw [q5];exact p1,by simp;omega,by rw [q3];exact AJ _,fun _=> .inr ?_⟩;rw [q4];simp;omega
     ·
      have O:Builtin.nextslicecap (len+n) cap*i.bytes<=281474976710656:=growslice_fits IM (by rw [b5];exact hb);have a6:((len+n:Nat):Int)<=9223372036854775807:=by
       have:(len+n)*1<=(len+n)*(D+1):=EO _ IM;omega
      have c0:eB M cs ((List.range cs.length).map rv):=⟨⟨IP,fun i p q=>by simpa using hv i p⟩,hcc⟩;have Z:((List.range cs.length).map rv).length=len*i.size:=by rw [K];simp;omega
      have a4: ∀j v,((List.range cs.length).map rv)[j]?=some v->w.drew.cell? (ad.add j)=some v:=by
       intro j v G;obtain⟨h1,h2⟩:=BB.1 G;simp at h1 h2;have b4:cap≠0:=by
        intro e;have:len=0:=IM;subst this;simp at a3;rw [a3]at h1;simp at h1
       obtain⟨a5,_⟩:=had.resolve_left b4;obtain⟨ab,ao,c6⟩:=ad;simp only at a5;subst a5;rw [dH,<-h2];exact a.im _ _ _ (him j h1)
      have u:=run_append_grow_src (P:=P) w t tx ty e i Y ht hi hz (some ad) len cap _ (run_firstCells_some w.drew i.size len ad len cap _ Z a4) rx n l hS IM a6 O;have V:=grownCap_ge w (len+n) cap e;have a7:((((List.range cs.length).map rv)++l).toArray++Builtin.zeroCells Y.cells (grownCap w (len+n) cap e- (len+n))).size=grownCap w (len+n) cap e*(sz+1):=by
       have h2:(len+n)*(sz+1)+(grownCap w (len+n) cap e- (len+n))*(sz+1)=grownCap w (len+n) cap e*(sz+1):=by
        rw [<-Nat.add_mul];congr 1;omega
       simp only [ET,DX,AH,Z,K,A,a1];omega
      have b1:(len+n)*(sz+1)<=grownCap w (len+n) cap e*(sz+1):=CE _ V;obtain⟨M',q1,q2,q3,q4,q5,q6,q7⟩:=b3J a (fz:=(0,0)) (k:=n*(sz+1)) (n:=(len+n)*(sz+1)) hg (qG w _) (.inl (AJ _)) (by rw [a7];exact b1) c8;refine⟨_,_,M',u,?_,q1,q2⟩;have hE:=q2.ext;have T:=(c0.append hc).mono hE;refine .vslice ⟨w.heap.size,0,none⟩ (fun j=>(((List.range cs.length).map rv)++l).getD j undef) (by simp;omega) V (.inr ⟨rfl,_,q6,by rw [a7];simp⟩) ?_ ?_ T.2 ?_ IP
      ·intro j G;have d3:=G;simp only [AH]at d3;have z:j< (((List.range cs.length).map rv)++l).length:=by rw [<-T.len];exact G
       simp only [BT];rw [q7 j IM,HA (by simpa using z)];rw [EC,AA z];simp only [AN];rw [AA z];rfl
      ·intro j G;have z:j< (((List.range cs.length).map rv)++l).length:=by rw [<-T.len];exact G
       have:=T.1.2 j G z;simp only [AN];rw [AA z];exact this
      ·intro k ek;simp at ek;subst ek;refine⟨by rw [q5];exact p1,by simp;omega,by rw [q3];exact AJ _,fun _=> .inr ?_⟩;rw [q4];simp;omega
   ·
    rename_i id d4 len z';split at happ
    case h_2=>simp at happ
    rename_i cs hg;split at happ
    case isFalse=>simp at happ
    rename_i L;obtain⟨rfl,rfl,a3,hb⟩:=L;simp only [AC,BY]at happ;obtain⟨rfl,rfl⟩:=happ;obtain⟨b',rc,l1,l2,l3,l4,l5⟩:=a.row hg;have b6:(len+n)*(sz+1)=len*(sz+1)+n*(sz+1):=Nat.add_mul _ _ _;have b3:(cs.take (len*(sz+1))++xs).length=(len+n)*(sz+1):=by simp;omega
    have d0:eB M (cs.take (len*(sz+1))) (rc.toList.take (len*(sz+1))):=by
     have:=l4.take (len*(sz+1))
     rwa [HW,FJ a3]at this
    cases hs with
    | @hslice _ _ _ _ cap b ad hl had hlen=>
     rw [hl]at l1;simp at l1;subst l1
     by_cases hroom:len+n<=cap
     ·obtain⟨rfl,n0,a2,b7⟩:=had.resolve_left IM;rw [l2.bsz]at a2;simp at a2;subst a2;have d2:(len+n)*(sz+1)<=cap*(sz+1):=CE _ hroom;obtain⟨el,fz,a9⟩:=l2.at_;have u:=run_append_room_src (P:=P) w t tx ty e i ht hi b 0 len cap rx n l hS hroom
       (by
        intro j G;rw [A]at G;rw [K];simp [World.cell?,a9,show len*(sz+1)+j<rc.size by omega])
       (by
        intro j G;rw [A]at G;rw [K];exact l2.free _ IM)
      rw [K]at u;obtain⟨c3,s1,s2⟩:=gU b l (0+len*(sz+1)) w rc el fz a9 (by rw [A];omega);have a0:c3.size=rc.size:=by
       have:=congrArg List.length s2;rw [lZ _ _ _ (by rw [A];simp;omega)]at this;simpa using this
      have b0: ∀j,(w.setCells b (0+len*(sz+1)) l).frozen? ⟨b,j,none⟩=w.frozen? ⟨b,j,none⟩:=fun j=>World.frozen?_setCells b _ _ _ _
      obtain⟨M',q1,q2,q3,q4⟩:=Je a (cs':=cs.take (len*(sz+1))++xs) hg hl (fun k hk=>eX b _ _ _ k hk) (fO b _ _ _) (fP b _ _ _)
       ⟨⟨el,fz,s1⟩,fun j G=>by rw [b0];exact l2.free j IM,by rw [a0];exact l2.bsz⟩ IM (by
        rw [s2,b3,Za _ _ _ _ (by rw [A];omega) (by simp;omega)];rw [BT];exact d0.append hc)
      exact⟨_,_,M',u,.hslice _ q3 (.inr ⟨rfl,_,q4,by rw [a0];omega⟩) hroom,q1,q2⟩
     ·have O:Builtin.nextslicecap (len+n) cap*i.bytes<=281474976710656:=growslice_fits IM (by rw [b5];exact hb);have a6:((len+n:Nat):Int)<=9223372036854775807:=by
       have:(len+n)*1<=(len+n)*(D+1):=EO _ IM;omega
      have Z:(rc.toList.take (len*(sz+1))).length=len*i.size:=by rw [K];simp;omega
      have a4: ∀j v,(rc.toList.take (len*(sz+1)))[j]?=some v->w.drew.cell? (ad.add j)=some v:=by
       intro j v G;obtain⟨h1,h2⟩:=BB.1 G;have b4:cap≠0:=by
        intro e;have:len=0:=IM;subst this;rw [Z]at h1;simp at h1
       obtain⟨rfl,_⟩:=had.resolve_left b4;rw [dH];have d1:j< (rc.toList.take cs.length).length:=by simp at h1⊢;omega
       have:=l5 j d1;rw [<-h2];simpa using this
      have u:=run_append_grow_src (P:=P) w t tx ty e i Y ht hi hz (some ad) len cap _ (run_firstCells_some w.drew i.size len ad len cap _ Z a4) rx n l hS IM a6 O;have V:=grownCap_ge w (len+n) cap e;have a7:(((rc.toList.take (len*(sz+1)))++l).toArray++Builtin.zeroCells Y.cells (grownCap w (len+n) cap e- (len+n))).size=grownCap w (len+n) cap e*(sz+1):=by
       have h2:(len+n)*(sz+1)+(grownCap w (len+n) cap e- (len+n))*(sz+1)=grownCap w (len+n) cap e*(sz+1):=by
        rw [<-Nat.add_mul];congr 1;omega
       simp only [ET,DX,AH,Z,K,A,a1];omega
      have b1:(len+n)*(sz+1)<=grownCap w (len+n) cap e*(sz+1):=CE _ V;have T:=d0.append hc;obtain⟨M',q1,q2,q3,q4⟩:=Vq a (fz:=(0,0)) (cs':=cs.take (len*(sz+1))++xs) hg (qG w _) (.inl (AJ _)) (by rw [a7,b3];exact b1) (by
       have e1:(cs.take (len*(sz+1))++xs).length=((rc.toList.take (len*(sz+1)))++l).length:=T.len;have e3: ∀X:List Value,X.toArray.toList.take X.length=X:=fun X=>IP
       rw [GM,DU (II e1),e1,e3];exact T)
      exact⟨_,_,M',u,.hslice _ q3 (.inr ⟨rfl,_,q4,by rw [a7];simp⟩) V,q1,q2⟩
   ·simp at happ
end
section
variable {M:Meta} {h:Heap} {w:World}
theorem Zb{d:TypeDesc}{k v:IV}{g rv:Value}(p:VR M k g)(G:VR M v rv): ∀{l es':List (IV×IV)}{ents:List MapEntry}(i:Nat),sL M l ents->pJ d k v l=some es'->
  (∃j e u,ents[j]?=some e/\Instr.findNow d g ents i=some (some (i+j,u))/\e.key=g/\(∀n,Instr.sameBits n e.key g=true)/\sL M es' (ents.modify j fun e=> {e with key:=g,val:=rv })) \/
  (Instr.findNow d g ents i=some none/\es'=l++ [(k,v)])
 | [],es',ents,i,hm,h=>by
  have:ents=[]:=by have:=hm.len;simpa using this.symm
  subst this;simp [pJ]at h;subst h;exact .inr ⟨rfl,rfl⟩
 | (x,y)::l,es',ents,i,hm,h=>by
  obtain⟨e,q,rfl,A,v1,h2⟩:=hm.uncons;unfold pJ at h;split at h
  ·rename_i hs;simp at h;subst h;obtain⟨z,X⟩:=jB hs p A;obtain⟨_,Y,Z⟩:=X rfl;refine .inl ⟨0,e,e.val,rfl,by simp [Instr.findNow,z],Y.symm,Z,?_⟩;exact sL.cons p G h2
  ·rename_i hs;obtain⟨z,_⟩:=jB hs p A;obtain⟨r,r1,V⟩:=AD.1 h;subst V;rcases Zb p G (i+1) h2 r1 with⟨j,e',u,D,K,L,O,T⟩| ⟨D,rfl⟩
   ·refine .inl ⟨j+1,e',u,by simpa using D,?_,L,O,sL.cons A v1 T⟩;simp [Instr.findNow,z,K];omega
   ·refine .inr ⟨?_,rfl⟩;simp [Instr.findNow,z,D]
  ·simp at h
theorem Qf{d:TypeDesc}{k v:IV}{j rv:Value}(l:VR M k j)(D:VR M v rv): ∀{g es':List (IV×IV)}{ents:List MapEntry}(i:Nat){y:IV},sL M g ents->eV d k g=some (some y)->pJ d k v g=some es'->
  ∃e u,ents[lY d k g]?=some e/\Instr.findNow d j ents i=some (some (i+lY d k g,u))/\VR M y u/\u=e.val/\e.key=j/\(∀n,Instr.sameBits n e.key j=true)/\sL M es' (ents.modify (lY d k g) fun e=> {e with key:=j,val:=rv })
 | [],es',ents,i,y,hm,hf,h=>by simp [eV]at hf
 | (x,z)::g,es',ents,i,y,hm,hf,h=>by
  obtain⟨e,q,rfl,p,G,h2⟩:=hm.uncons;unfold pJ at h;unfold eV at hf;unfold lY
  split at h
  ·rename_i hs;simp only [hs,AC]at hf h;subst h;subst hf;obtain⟨A,s2⟩:=jB hs l p;obtain⟨_,s4,s5⟩:=s2 rfl;simp only [hs];exact⟨e,e.val,rfl,by simp [Instr.findNow,A],G,rfl,s4.symm,s5,sL.cons l D h2⟩
  ·rename_i hs;simp only [hs]at hf;obtain⟨A,_⟩:=jB hs l p;obtain⟨r,r1,Z⟩:=AD.1 h;subst Z;obtain⟨e',u,K,L,O,T,V,X,Y⟩:=Qf l D (i+1) h2 hf r1;simp only [hs];refine⟨e',u,by simpa using K,?_,O,T,V,X,sL.cons p G Y⟩;simp [Instr.findNow,A,L];omega
  ·simp at h
theorem Vt{d:TypeDesc}{k:IV}(i:VR M k X){g:List (IV×IV)}{ents:List MapEntry}(j:sL M g ents)(hf:eV d k g=some none):Instr.findNow d X ents 0=some none:=rO i 0 j hf
theorem Zc{v:IV}{rv:Value}(j:VR M v rv): ∀{g:List (IV×IV)}{ents:List MapEntry}(n:Nat),sL M g ents->sL M (K8 v n g) (ents.modify n fun e=> {e with val:=rv })
 | [],ents,n,hm=>by
  have:ents=[]:=by have:=hm.len;simpa using this.symm
  subst this;simpa [K8]using hm
 | (x,z)::g,ents,0,hm=>by
  obtain⟨e,q,rfl,i,l,h2⟩:=hm.uncons;exact sL.cons i j h2
 | (x,z)::g,ents,n+1,hm=>by
  obtain⟨e,q,rfl,i,l,h2⟩:=hm.uncons;exact sL.cons i l (Zc j n h2)
def Jh(E:Env)(M:Meta)(h:Heap)(w:World)(o:Oper)(ρ:Operand->Value)(v:Option TV)(h':Heap):Prop:=
 ∃w' M',Inv M' h' w'/\Pres w.heap.size M h w M' h' w'/\
  ((∃x r,v=some (.v x)/\(execOp ρ o).run E.P w= .ok (.value r) w'/\VR M' x r) \/ (v=none/\(execOp ρ o).run E.P w= .ok .skip w'))
section
variable {E:Env} {f:FuncId} {o:Oper} {ev:Operand->Option TV} {ρ:Operand->Value} {pb:Nat->Nat}
theorem Ji(w:World)(c:Array Value)(g:TypeId): ∃fz,NewBlk w (((w.drew.alloc (.cells c g))).freeze ⟨w.heap.size,c.size,none⟩ 1) (.cells c g fz)/\c.size<=fz.1:=by
 refine⟨(c.size,c.size+1),⟨?_,?_,?_,rfl,rfl,rfl⟩,AJ _⟩
 ·show((w.heap.push (.cells c g)).modify w.heap.size _)[w.heap.size]?=_;rw [DS,if_pos rfl];simp
 ·intro b i;show((w.heap.push (.cells c g)).modify w.heap.size _)[b]?=_;rw [DS,if_neg IM,FG,if_neg IM]
 ·show((w.heap.push (.cells c g)).modify w.heap.size _).size=_;simp
theorem Qg(a:Inv M h w)(hev: ∀x tv,ev x=some tv->TR M pb tv (ρ x)){v:Option TV}(D:fZ E f o ev h=some (v,g)):Jh E M h w o ρ v g:=by
 unfold fZ at D
 cases hop:o.op with
 |move x=>
  simp only [hop]at D;split at D
  case isFalse=>cases D
  split at D
  case h_2=>cases D
  rename_i id L len sz hx;split at D
  case h_2=>cases D
  rename_i cs hg;split at D
  case isFalse=>cases D
  rename_i hc;simp only [AC,BY]at D;obtain⟨rfl,rfl⟩:=D;obtain⟨M',h1,h2,h3⟩:=Qb a hg hc.1 hc.2 (bH hev hx);exact⟨w,M',h1,h2,.inl ⟨_,_,rfl,by simp [execOp,hop],h3⟩⟩
 |alloc t=>
  simp only [hop]at D;split at D
  case h_2=>simp at D
  split at D
  ·simp at D
  obtain⟨z,h1,h2⟩:=AD.1 D;simp at h2;obtain⟨rfl,rfl⟩:=h2;obtain⟨i,r,h3,h4,h5,h6⟩:=eI (M:=M) h1;have hc:=iQ h5 h6;have hl:(cellsOf z).length=r.cells.size:=by simpa using hc.len
  obtain⟨M',q1,q2,q3,q4⟩:=wG a (fz:=(0,0)) (cs:=cellsOf z) (NewBlk.alloc w (.cells r.cells t)) (.inl (AJ _)) IM (by rw [AP (by simp;omega)];exact hc);refine⟨_,M',q1,q2,.inl ⟨_,_,rfl,?_,.ptr q3⟩⟩;simp only [execOp,hop];refine cG _ _ ?_;simp only [Instr.alloc,AU,cQ w h3 h4,AL,newVar,Go.newRow,run_newObj,AZ];rfl
 |box t x=>
  simp only [hop]at D;split at D
  case h_2=>simp at D
  rename_i d v' hd hv;split at D
  ·simp at D
  split at D
  case isFalse=>simp at D
  rename_i i4;simp at D;obtain⟨rfl,rfl⟩:=D;have hc:=iQ (bH hev hv) i4;have hl:(cellsOf v').length=(ρ x).cells.size:=by simpa using hc.len
  obtain⟨M',q1,q2,q3,q4⟩:=wG a (fz:=(0,0)) (cs:=cellsOf v') (NewBlk.alloc w (.cells (ρ x).cells t)) (.inl (AJ _)) IM (by rw [AP (by simp;omega)];exact hc);refine⟨_,M',q1,q2,.inl ⟨_,_,rfl,?_,.ptr q3⟩⟩;simp only [execOp,hop];refine cG _ _ ?_;simp only [Instr.box,newVar,Go.newRow,AU,run_newObj,AL,AZ];rfl
 |buildSlice t n parts=>
  simp only [hop]at D;split at D
  case h_2=>simp at D
  rename_i e d hu hd;split at D
  ·simp at D
  split at D
  case h_2=>simp at D
  rename_i sz z ps b0 hz hp;split at D
  case isFalse=>simp at D
  rename_i O;obtain⟨cs,h1,h2⟩:=AD.1 D;simp at h2;obtain⟨rfl,rfl⟩:=h2;have i5:PR M ps (parts.map fun(i,x)=>(i,ρ x)).toList:=by
   have:=uE (M:=M) hev hp;simpa using this
  obtain⟨ro,r1,r2,r3⟩:=qF (P:=E.P) (M:=M) w hu b0 hz O.1 O.2 i5 h1;have j5:ro.size=n*(sz+1):=by have:=r2.len;simp at this;omega
  obtain⟨M',q1,q2,q3⟩:=nE a (E.A f d) (fz:=(0,0)) (NewBlk.alloc w (.cells ro e)) (.inl (AJ _)) r3 (AJ n) IM (by rw [AP (by simp;omega)];exact r2);exact⟨_,M',q1,q2,.inl ⟨_,_,rfl,by simp only [execOp,hop];exact cG _ _ r1,q3⟩⟩
 |makeSlice t lo co=>
  simp only [hop]at D;split at D
  case h_2=>simp at D
  rename_i e d l c hu hd hl hc;split at D
  case h_2=>simp at D
  rename_i sz X z b0 d6 hz;split at D
  case isFalse=>simp at D
  rename_i O;obtain⟨b1,b2,b3,b4,f1⟩:=O;simp only [AC,BY]at D;obtain⟨rfl,rfl⟩:=D;obtain⟨kl,i2⟩:=oI hl;obtain⟨kc,i1⟩:=oI hc;have vl:VR M (.int kl l) (ρ lo):=hev _ _ i2;have vc:VR M (.int kc c) (ρ co):=hev _ _ i1;generalize hρl:ρ lo=rl at vl;generalize hρc:ρ co=rc at vc
  cases vl
  cases vc
  obtain⟨i,Y,c0⟩:=dN b0;obtain⟨i',a8,d9⟩:=kP d6;rw [Y]at a8;simp at a8;subst a8;obtain⟨rz,f0,d0⟩:=lB (M:=M) hz Y;have d2:=uH d0 IM l.toNat;have e8:=uH d0 IM c.toNat;rw [f1]at d2 e8;have e5:l.toNat<=c.toNat:=IM;have j4:l.toNat*(sz+1)<=c.toNat*(sz+1):=CE _ e5;have f8:(fQ l.toNat (cellsOf z)).length=l.toNat*(sz+1):=by rw [gA,f1]
  obtain⟨M',q1,q2,q3⟩:=nE a (1-E.A f d) (rc:=(Array.range (c.toNat*(sz+1))).map (rz.cells[· %rz.cells.size]!)) (fz:=(0,0)) (NewBlk.alloc w (.cells _ e)) (.inl (AJ _)) f8 e5 IP (by
   rw [f8];have:((Array.range (c.toNat*(sz+1))).map (rz.cells[· %rz.cells.size]!)).toList.take (l.toNat*(sz+1))=((Array.range (l.toNat*(sz+1))).map (rz.cells[· %rz.cells.size]!)).toList:=by
    apply DL;intro j
    by_cases hj:j<l.toNat*(sz+1)
    ·simp [hj,show j<c.toNat*(sz+1) by omega]
    ·have i3:min l.toNat c.toNat=l.toNat:=FJ e5;simp [hj,i3]
   rw [this];exact d2)
  refine⟨_,M',q1,q2,.inl ⟨_,_,rfl,?_,q3⟩⟩;simp only [execOp,hop,hρl,hρc];refine cG _ _ ?_;have wl:IntKind.i64.wrap l=l:=AB _ IM;have wc:IntKind.i64.wrap c=c:=AB _ IM;have t1: ∀n:Int,0<=n->n<=c->(decide (n<0)||decide ((X:Int)*n>2^48))=false:=by
   intro n h0 hn;have:(X:Int)*n<=X*c:=GI hn IM;have e1:decide (n<0)=false:=by simp;omega
   have e2:decide ((X:Int)*n>2^48)=false:=by simp;omega
   rw [e1,e2];rfl
  have i7:(typeInfo e).run E.P w= .ok i w:=by simp [typeInfo,Y]
  simp only [Instr.makeSlice,AU,run_underlying hu,AL,asInt,asIntOf,AZ,i7,wl,wc,d9];have e3:(decide (c<0)||decide ((X:Int)*c>2^48)||decide (l<0)||decide (l>c))=false:=by
   rw [t1 c IM IM];have e1:decide (l<0)=false:=by simp;omega
   have e2:decide (l>c)=false:=by simp;omega
   rw [e1,e2];rfl
  have f4:i.size=sz+1:=c0;simp only [e3,BA,if_false,AZ,AL,run_askRoom,cM Y,f4,AU]
  by_cases hn0:c.toNat*(sz+1)=0
  ·rw [if_pos hn0];simp only [AU,AZ,AL,Go.newRow,run_newObj,hn0];rw [sV _ (fun x=>rz.cells[x%rz.cells.size]!)];rfl
  ·rw [if_neg hn0];simp only [AU,AZ,AL,cQ w Y f0,Go.newRow,run_newObj];rfl
 |makeMap t r=>
  simp only [hop]at D;split at D
  case h_2=>simp at D
  simp at D;obtain⟨rfl,rfl⟩:=D;obtain⟨M',q1,q2,q3⟩:=b3I a (NewBlk.alloc w (.map #[] 0));refine⟨_,M',q1,q2,.inl ⟨_,_,rfl,?_,.map q3⟩⟩;simp only [execOp,hop];refine cG _ _ ?_;simp only [Instr.makeMap,HT,AU,AZ,AL,run_newObj];rfl
 |convert s d x=>
  simp only [hop]at D;split at D
  case h_2=>simp at D
  rename_i ds e g5 b hs hd j3 hx;split at D
  case h_2=>simp at D
  rename_i i9;simp at D;obtain⟨rfl,rfl⟩:=D;have b6:=bH hev hx;generalize hρ:ρ x=rx at b6
  cases b6 with
  |str sb=>
   let cap:=grownCap w sb.size 0 e
   let c:Array Value:=sb.data.map (fun b=>Value.int .u8 b.toNat)++Array.replicate (cap-sb.size) (.int .u8 0)
   obtain⟨fz,nb,h8⟩:=Ji w c e;have h9:sb.size<=cap:=grownCap_ge w sb.size 0 e;have g8:c.size=cap:=by
    have e1:sb.size=sb.data.size:=rfl;simp [c];omega
   have g7:eB M (sb.data.toList.map fun b=>IV.int .u8 b.toNat) (sb.data.toList.map fun b=>Value.int .u8 b.toNat):=
    ⟨⟨IP,fun i p q=>by simpa using VR.int _ _⟩,fun i p=>by simp [isCell]⟩
   obtain⟨M',q1,q2,q3⟩:=nE a (E.A f g5) (len:=sb.data.toList.length) (cs:=sb.data.toList.map fun b=>IV.int .u8 b.toNat) (sz:=1) (cap:=cap) nb (.inr h8) IP h9 (by rw [g8];omega) (by
    have:c.toList.take (sb.data.toList.map fun b=>IV.int .u8 (b.toNat:Int)).length=sb.data.toList.map fun b=>Value.int .u8 b.toNat:=by
     simp only [c,GM,HL,BF];rw [DU IP,AP IP]
    rw [this];exact g7)
   refine⟨_,M',q1,q2,.inl ⟨_,_,rfl,?_,q3⟩⟩;simp only [execOp,hop,hρ];refine cG _ _ ?_;have d7:(convert s d (.string sb)).run E.P w=(Conv.stringToBytes e sb).run E.P w:=by
    cases ds<;>simp [convert,run_underlying hs,run_underlying hd,run_underlying i9]
   rw [d7];simp only [Conv.stringToBytes,AU,run_choose,Question.forced,BA,if_false,AL,Go.newRow,run_newObj,AZ,markStringish,run_shape];have c8:({w with drawn:=w.drawn+1,heap:=w.heap.push (.cells c e) } :World).shape? w.heap.size=some (e,c.size):=by
    simp [World.shape?]
   have c2:World.shape? { {w with drawn:=w.drawn+1 }with heap:=({w with drawn:=w.drawn+1 } :World).heap.push (.cells c e) } ({w with drawn:=w.drawn+1 } :World).heap.size=some (e,c.size):=c8;have:=c2;simp only [c,cap,grownCap]at this;rw [this];simp only [AZ,AL,run_freeze,AU];rfl
 |store t ad x=>
  simp only [hop]at D;split at D
  case h_2=>simp at D
  rename_i id L v' ha hx;split at D
  case h_2=>simp at D
  rename_i cs hg;obtain⟨cs',h1,h2⟩:=AD.1 D;simp at h2;obtain⟨rfl,rfl⟩:=h2;have b6:VR M (.ptr id L) (ρ ad):=hev _ _ ha;generalize hρ:ρ ad=ra at b6;obtain⟨b',rc,l1,l2,l3,l4,l5⟩:=a.row hg
  cases b6 with
  | @ptr _ _ b hl=>
   rw [hl]at l1;simp at l1;subst l1;obtain⟨el,fz,c7⟩:=l2.at_;obtain⟨g0,s1,s2,s3,s4,s5,s6⟩:=Ch (P:=E.P) l4 c7 l2.free (bH hev hx) h1;have b9: ∀j,(w.setCells b L (ρ x).cells.toList).frozen? ⟨b,j,none⟩=w.frozen? ⟨b,j,none⟩:=fun j=>World.frozen?_setCells b _ _ _ _
   obtain⟨q1,q2⟩:=L1 a (cs':=cs') hg hl (fun k hk=>eX b _ _ _ k hk) (fO b _ _ _) (fP b _ _ _)
    ⟨⟨el,fz,s2⟩,fun j hj=>by rw [b9];exact l2.free j IM,by rw [s3];exact l2.bsz⟩ IM s5
   refine⟨_,M,q1,q2,.inr ⟨rfl,?_⟩⟩;simp only [execOp,hop,hρ];refine S1 _ _ ?_;simp only [Instr.storeAt,Instr.sureAddr,AU,AZ,AL];exact s1
 |mapUpdate t m k x=>
  simp only [hop]at D;split at D
  case h_2=>simp at D
  rename_i kt et id key v' hu hm hk hx;split at D
  case h_2=>simp at D
  rename_i d es hd hg;split at D
  case isFalse=>simp at D
  rename_i e4;obtain⟨es',h1,h2⟩:=AD.1 D;simp at h2;obtain⟨rfl,rfl⟩:=h2;have a6:=bH hev hm;have a0:=bH hev hk;have c9:=bH hev hx;generalize hρ:ρ m=rm at a6
  cases a6 with
  | @map _ b hl=>
   obtain⟨b',ents,clock,g1,g2,g3,g4⟩:=a.maps id es hg;rw [hl]at g1;simp at g1;subst g1;have b7:=oL (M:=M) (emp:=false) hd e4 a0 w 9999;have a7:(getObj b).run E.P w= .ok (.map ents clock) w:=by simp [getObj,Sem.run,g2]
   have Z: ∀ob,(setObj b ob).run E.P w= .ok () {w with heap:=w.heap.setIfInBounds b ob } :=by
    intro ob;simp [setObj,Sem.run,g2]
   have a5:b<w.heap.size:=cW g2;have fin: ∀K G,sL M es' K.toList/\Iq K G->(Instr.mapUpdate t (.map (some b)) (ρ k) (ρ x)).run E.P w= .ok () {w with heap:=w.heap.setIfInBounds b (.map K G) } ->Jh E M h w o ρ none (h.set id (.map es')):=by
    intro K G e6 c1;obtain⟨q1,q2⟩:=S2 (w':= {w with heap:=w.heap.setIfInBounds b (.map K G) }) a (ents:=K) (clock:=G) (es':=es') hg hl (fun j hj=>by simp [CW,show¬ (b=j)from fun e=>hj e.symm]) IP ⟨rfl,rfl,rfl⟩ (by simp [CW,a5]) e6;refine⟨_,M,q1,q2,.inr ⟨rfl,?_⟩⟩;simp only [execOp,hop,hρ];exact S1 _ _ c1
   rcases Zb a0 c9 0 g3 h1 with⟨j,e,u,p1,p2,p3,p4,p5⟩| ⟨p1,rfl⟩
   ·refine fin (ents.modify j fun e=> {e with key:=ρ k,val:=ρ x }) clock ⟨by rw [GO];exact p5,g4.modify _ _ (fun _=>rfl)⟩ ?_;have hj:ents[j]?=some e:=by rw [<-Array.getElem?_toList];exact p1
    have a9:(Instr.keyThatStays (((ents[j]?).map (·.key)).getD (ρ k)) (ρ k)).run E.P w= .ok (ρ k) w:=by
     simp [hj,Instr.keyThatStays,p4]
    simp only [BT]at p2;simp only [Instr.mapUpdate,AU,run_underlying hu,AL,a7,b7,Instr.findKey,run_underlying hd,p2,AZ,a9,Z]
   ·refine fin (ents.push {key:=ρ k,val:=ρ x,born:=clock }) (clock+1) ?_ ?_
    ·refine⟨?_,g4.push _ _⟩;rw [Array.toList_push];exact⟨by simpa using g3.1.append (cX.cons a0 (cX.nil M)),by simpa using g3.2.append (cX.cons c9 (cX.nil M))⟩
    ·simp only [Instr.mapUpdate,AU,run_underlying hu,AL,a7,b7,Instr.findKey,run_underlying hd,p1,AZ,Z]
 |mapEntry t m k=>
  simp only [hop]at D;split at D
  case h_2=>simp at D
  rename_i kt et id key hu hm hk;split at D
  case h_2=>simp at D
  rename_i d es z hd hg hz;split at D
  case isFalse=>simp at D
  rename_i e4;obtain⟨⟨rv,rn,es'⟩,h1,h2⟩:=AD.1 D;simp only [AC,BY]at h2;obtain⟨rfl,rfl⟩:=h2;have a6:=bH hev hm;have a0:=bH hev hk;generalize hρ:ρ m=rm at a6
  cases a6 with
  | @map _ b hl=>
   obtain⟨b',ents,clock,g1,g2,g3,g4⟩:=a.maps id es hg;rw [hl]at g1;simp at g1;subst g1;have b7:=oL (M:=M) (emp:=false) hd e4 a0 w 9999;have a7:(getObj b).run E.P w= .ok (.map ents clock) w:=by simp [getObj,Sem.run,g2]
   have Z: ∀ob,(setObj b ob).run E.P w= .ok () {w with heap:=w.heap.setIfInBounds b ob } :=by
    intro ob;simp [setObj,Sem.run,g2]
   have a5:b<w.heap.size:=cW g2;have fin: ∀K G r,sL M es' K.toList/\Iq K G->VR M (.tuple [rv,.int .i64 rn]) r->(Instr.mapEntry t (.map (some b)) (ρ k)).run E.P w= .ok r {w with heap:=w.heap.setIfInBounds b (.map K G) } ->Jh E M h w o ρ (some (.v (.tuple [rv,.int .i64 rn]))) (h.set id (.map es')):=by
    intro K G r e6 hr c1;obtain⟨q1,q2⟩:=S2 (w':= {w with heap:=w.heap.setIfInBounds b (.map K G) }) a (ents:=K) (clock:=G) (es':=es') hg hl (fun j hj=>by simp [CW,show¬ (b=j)from fun e=>hj e.symm]) IP ⟨rfl,rfl,rfl⟩ (by simp [CW,a5]) e6;refine⟨_,M,q1,q2,.inl ⟨_,r,rfl,?_,hr⟩⟩;simp only [execOp,hop,hρ];exact cG _ _ c1
   unfold Yo at h1;split at h1
   ·rename_i y hf;obtain⟨j6,u1,u2⟩:=AD.1 h1;simp only [BY]at u2;obtain⟨rfl,rfl,rfl⟩:=u2;obtain⟨j0,u0,_,j1⟩:=rO a0 0 g3 hf;obtain⟨e,u,p1,p2,p3,p4,p5,p6,p7⟩:=Qf (v:=y) (rv:=u0) a0 j1 0 g3 hf u1;have hj:ents[lY d key es]?=some e:=by rw [<-Array.getElem?_toList];exact p1
    simp only [BT]at p2;rename_i j8 _;have i8:u0=u:=by
     have:=(‹Instr.findNow d (ρ k) ents.toList 0=some (some (j0,u0))›);rw [p2]at this;simp only [AC,BY]at this;exact this.2.symm
    subst i8;have f7:(ents.modify (lY d key es) fun e=> {e with key:=ρ k,val:=u0 })=ents.modify (lY d key es) fun e=> {e with key:=ρ k } :=by
     apply Array.ext_getElem?;intro j;rw [DS,DS];split
     ·rename_i i0;rw [<-i0,hj];simp [p4]
     ·rfl
    refine fin (ents.modify (lY d key es) fun e=> {e with key:=ρ k }) clock (.tuple #[u0,goInt (lY d key es)]) ⟨?_,g4.modify _ _ (fun _=>rfl)⟩ (dV (cX.cons p3 (cX.cons (.int _ _) (cX.nil M)))) ?_
    ·rw [<-f7,GO];exact p7
    have a9:(Instr.keyThatStays (((ents[lY d key es]?).map (·.key)).getD (ρ k)) (ρ k)).run E.P w= .ok (ρ k) w:=by
     simp [hj,Instr.keyThatStays,p6]
    have d5:(((ents[lY d key es]?).map (fun x=>(x.born:Int))).getD 0)=(lY d key es:Int):=by
     rw [hj];have:=g4.2 _ _ hj;simp [this]
    simp only [Instr.mapEntry,AU,run_underlying hu,AL,a7,b7,Instr.findKey,run_underlying hd,p2,AZ,a9,Z,d5]
   ·rename_i hf;simp only [AC,BY]at h1;obtain⟨rfl,rfl,rfl⟩:=h1;obtain⟨i,r,z1,z2,z3,z4⟩:=eI (M:=M) hz;have h7:=Vt a0 g3 hf;have g6:clock=es.length:=by rw [g4.1];have:=g3.len;simpa using this.symm
    refine fin (ents.push {key:=ρ k,val:=r,born:=clock }) (clock+1) (.tuple #[r,goInt clock]) ⟨?_,g4.push _ _⟩ (dV (cX.cons z3 (cX.cons (by rw [g6];exact .int _ _) (cX.nil M)))) ?_
    ·rw [Array.toList_push];exact⟨by simpa using g3.1.append (cX.cons a0 (cX.nil M)),by simpa using g3.2.append (cX.cons z3 (cX.nil M))⟩
    ·simp only [Instr.mapEntry,AU,run_underlying hu,AL,a7,b7,Instr.findKey,run_underlying hd,h7,AZ,cQ w z1 z2,Z]
   ·cases h1
 |entryStore t m s x=>
  simp only [hop]at D;split at D
  case h_2=>simp at D
  rename_i id kd n v' hm hs hx;split at D
  case h_2=>simp at D
  rename_i es hg;split at D
  case isFalse=>simp at D
  rename_i hn;simp only [AC,BY]at D;obtain⟨rfl,rfl⟩:=D;have a6:=bH hev hm;have c5:=bH hev hs;have c9:=bH hev hx;generalize hρ:ρ m=rm at a6;generalize hρs:ρ s=rs at c5
  cases c5
  cases a6 with
  | @map _ b hl=>
   obtain⟨b',ents,clock,g1,g2,g3,g4⟩:=a.maps id es hg;rw [hl]at g1;simp at g1;subst g1;have a7:(getObj b).run E.P w= .ok (.map ents clock) w:=by simp [getObj,Sem.run,g2]
   have Z: ∀ob,(setObj b ob).run E.P w= .ok () {w with heap:=w.heap.setIfInBounds b ob } :=by
    intro ob;simp [setObj,Sem.run,g2]
   have a5:b<w.heap.size:=cW g2;have f5:es.length=ents.size:=by have:=g3.len;simpa using this
   have e7:n.toNat<ents.size:=IM;have g9:ents.findIdx? (fun e=>(e.born:Int)==n)=some n.toNat:=by
    rw [Array.findIdx?_eq_some_iff_getElem];refine⟨e7,?_,fun j hj=>?_⟩
    ·have:=g4.2 n.toNat _ (HG e7);rw [this];simp;omega
    ·have:=g4.2 j _ (HG IM);rw [this];simp;omega
   obtain⟨q1,q2⟩:=S2 (w':= {w with heap:=w.heap.setIfInBounds b (.map (ents.modify n.toNat fun e=> {e with val:=ρ x }) clock) }) a (ents:=ents.modify n.toNat fun e=> {e with val:=ρ x }) (clock:=clock) (es':=K8 v' n.toNat es) hg hl (fun j hj=>by simp [CW,show¬ (b=j)from fun e=>hj e.symm]) IP ⟨rfl,rfl,rfl⟩ (by simp [CW,a5]) ⟨by rw [GO];exact Zc c9 _ g3,g4.modify _ _ (fun _=>rfl)⟩;refine⟨_,M,q1,q2,.inr ⟨rfl,?_⟩⟩;simp only [execOp,hop,hρ,hρs];refine S1 _ _ ?_;simp only [Instr.entryStore,AU,AZ,AL,a7,asInt,asIntOf,g9,Z]
 |call c=>
  obtain⟨c6,d1,V⟩:=c;simp only [hop]at D
  cases c6 with
  |value x=>simp at D
  |invoke x n=>simp at D
  |builtin b=>
   cases b
   case append=>
    simp only at D;split at D
    case h_2=>simp at D
    rename_i t u sx xx d4 d3;have f2:V= #[t,u]:=by apply EL;simpa using d4
    have b5:d1= #[sx,xx]:=by apply EL;simpa using d3
    split at D
    case h_2=>simp at D
    rename_i s x e du d hs hx ht hu hd;split at D
    case h_2=>simp at D
    rename_i sz X z b0 d6 hz;split at D
    case isFalse=>simp at D
    rename_i O;obtain⟨f1,hk⟩:=O;obtain⟨⟨r,j7⟩,h1,h2⟩:=AD.1 D;simp at h2;obtain⟨rfl,rfl⟩:=h2;obtain⟨i,Y,c0⟩:=dN b0;obtain⟨i',a8,d9⟩:=kP d6;rw [Y]at a8;simp at a8;subst a8;obtain⟨rz,f0,d0⟩:=lB (M:=M) hz Y;have j2:rz.cells.size=sz+1:=by have:=d0.len;simp at this;omega
    obtain⟨rr,w',M',a1,a2,a3,a4⟩:=Vs (P:=E.P) a (ty:=o.type) ht Y c0 d9 f0 j2 hu hk (bH hev hs) (bH hev hx) h1;refine⟨w',M',a3,a4,.inl ⟨_,rr,rfl,?_,a2⟩⟩;subst f2;subst b5;simp only [execOp,hop,resolve,invoke,AU,AZ,AL,builtin];simp only [HN,CF,FO,a1,AL]
   case copy=>
    simp only at D;split at D
    case h_2=>simp at D
    rename_i t ts sx xx d4 d3;have b5:d1= #[sx,xx]:=by apply EL;simpa using d3
    split at D
    case h_2=>simp at D
    rename_i id L len z x e hs hx ht;split at D
    case h_2=>simp at D
    rename_i sz cs b0 hg;split at D
    case h_2=>simp at D
    rename_i n xs f9;split at D
    case isFalse=>simp at D
    rename_i O;obtain⟨rfl,j9⟩:=O;simp only [AC,BY]at D;obtain⟨rfl,rfl⟩:=D;obtain⟨i,Y,c0⟩:=dN b0;obtain⟨s1,s2,s3,s4⟩:=S3 (P:=E.P) a (bH hev hx) f9;obtain⟨T,n1,n2,n3,n4⟩:=s4 (min n len) (Nat.min_le_left _ _);obtain⟨b',rc,l1,l2,l3,l4,l5⟩:=a.row hg;have c5:=bH hev hs;generalize hρ:ρ sx=rs at c5;have f3:V[0]?=some t:=by rw [<-Array.getElem?_toList,d4];rfl
    cases c5 with
    | @hslice _ _ _ _ cap b ad hl had f5=>
     rw [hl]at l1;simp at l1;subst l1;have k0:min n len*(sz+1)<=len*(sz+1):=CE _ (Nat.min_le_right _ _);have e7:(xs.take (min n len*(sz+1))).length=T.length:=n1.len;obtain⟨el,fz,c7⟩:=l2.at_;obtain⟨g0,e1,e2⟩:=gU b T L w rc el fz c7 IM;have e9:g0.size=rc.size:=by
      have:=congrArg List.length e2;rw [lZ _ _ _ (by simp;omega)]at this;simpa using this
     have b9: ∀j,(w.setCells b L T).frozen? ⟨b,j,none⟩=w.frozen? ⟨b,j,none⟩:=fun j=>World.frozen?_setCells b _ _ _ _
     have c3:(spl cs L (xs.take (min n len*(sz+1)))).length=cs.length:=by
      simp only [spl,AH,AW,CD];omega
     obtain⟨q1,q2⟩:=L1 a (cs':=spl cs L (xs.take (min n len*(sz+1)))) hg hl (fun k hk=>eX b _ _ _ k hk) (fO b _ _ _) (fP b _ _ _)
      ⟨⟨el,fz,e1⟩,fun j hj=>by rw [b9];exact l2.free j IM,by rw [e9];exact l2.bsz⟩ (by rw [c3];omega) (by
       rw [c3,e2];have:(mM rc.toList L T).take cs.length=mM (rc.toList.take cs.length) L T:=by
        simp only [mM];rw [FA,FA];simp only [AW,AH,HW,EN];rw [show min L rc.size=L from IM,show min cs.length L=L from IM,show min L cs.length=L from IM];rw [AP (l:=T) IM,List.drop_take]
       rw [this];exact l4.spl n1 L)
     refine⟨_,M,q1,q2,.inl ⟨_,goInt (min n len:Nat),rfl,?_,.int _ _⟩⟩;subst b5;simp only [execOp,hop,resolve,invoke,AU,AZ,AL,builtin];have d8:(Builtin.copy_ V o.type #[.slice (some ad) len cap,ρ xx]).run E.P w= .ok (goInt (min n len:Nat)) (w.setCells b L T):=by
      have i6:(storeCells ad T 0).run E.P w= .ok () (w.setCells b L T):=by
       by_cases h0:cap=0
       ·have:T=[]:=by
         have:min n len=0:=IM;rw [this]at n2;simpa using n2
        subst this;rfl
       ·obtain⟨rfl,_⟩:=had.resolve_left h0;exact run_storeCells_cells (P:=E.P) b L T 0 w (by
         intro j hj;simp [World.cell?,c7,show L+j<rc.size by omega]) (by
         intro j hj;simpa using l2.free (L+j) IM) n1.one
      have f6:Nat.min n len=min n len:=rfl;simp [Builtin.copy_,f3,run_underlying ht,s2,cM Y,c0,f6,n3,i6]
     simp only [HN,CF,FO,hρ,d8,AL]
   all_goals simp at D
 |_=>simp [hop]at D
end
end
end Go.Pv
end
section
namespace Go.Pv
open Go
def qH(h:Heap)(m i sz g:Nat)(s x:IV):Option (IV×Heap):=match s,x with
 | .nilslice,.hslice _ _ _ _=>none
 | .nilslice,x=>match fL h sz x with
  |some (n,xs)=>if 0<n/\n*g<=140737488355328 then some (lC h m i n sz xs)else none
  |none=>none
 |_,_=>none
section
variable {P:Program} {M:Meta} {h:Heap} {w:World}
theorem Cn(a:Inv M h w){m:Nat}(Z:h.get m= .free){L sz j:Nat}{t tx ty e:TypeId}{i:TypeInfo}{du:TypeDesc}{s x v:IV}{rs rx:Value}(ht:P.underlying t=some (.slice e))(hi:P.info? e=some i)(a0:i.size=sz+1)(V:i.bytes=j+1)
  (hz:i.zero=some X) (hzl:X.cells.size=sz+1) (hu:P.underlying tx=some du) (hk:kM du=true) (hs:VR M s rs) (hx:VR M x rx) (happ:qH h m L (sz+1) (j+1) s x=some (v,g)):
  ∃r w' M',(Builtin.append_ #[t,tx] ty #[rs,rx]).run P w= .ok r w'/\VR M' v r/\Inv M' g w'/\Pres w.heap.size M h w M' g w':=by
 unfold qH at happ;split at happ
 ·simp at happ
 ·split at happ
  case h_2=>simp at happ
  rename_i n xs z;split at happ
  case isFalse=>simp at happ
  rename_i T;obtain⟨hn,hb⟩:=T;simp only [AC]at happ
  cases hs
  obtain⟨l,hc,hS⟩:=Qa (P:=P) a hu hk hx z;have p:xs.length=n*(sz+1):=(S3 (P:=P) a hx z).1;have K:l.length=n*(sz+1):=by rw [<-hc.len,p]
  rw [<-a0]at hS;have A: ∀m,(Builtin.zeroCells X.cells m).size=m*(sz+1):=fun m=>by rw [size_zeroCells,hzl]
  have G:Builtin.nextslicecap (0+n) 0*i.bytes<=281474976710656:=growslice_fits IM (by rw [V];simpa using hb);have O:((0+n:Nat):Int)<=9223372036854775807:=by
   have:n*1<=n*(j+1):=EO _ IM;omega
  have u:=run_append_grow_src (P:=P) w t tx ty e i X ht hi hz none 0 0 [] (run_firstCells_none w.drew i.size 0 0 0) rx n l hS IM O G;simp only [DY,BT]at u;have Y:=grownCap_ge w n 0 e;have D:grownCap w n 0 e*(sz+1)<=(l.toArray++Builtin.zeroCells X.cells (grownCap w n 0 e-n)).size:=by
   simp only [ET,DX,K,A];rw [<-Nat.add_mul];exact CE _ IM
  obtain⟨M',r1,r2,r3⟩:=yE a Z L (fun _=>by rw [p];exact IK hn (CN _)) (fz:=(0,0)) (qG w _) (.inl (AJ _)) p Y D (by
   rw [p,<-K];simpa using hc)
  rw [happ]at r1 r2 r3;exact⟨_,_,M',u,r3,r1,r2⟩
 ·simp at happ
end
section
variable (E:Env) (f:FuncId) (o:Oper) (ev:Operand->Option TV) (h:Heap) (n:Nat)
def b3S:Option (Option TV×Heap):=
 match o.op with
 | .alloc t=>match o.dst with
  |some d=>if E.bx f d=0 then none else(dB E.P t).map fun z=>(some (.v (.ptr n 0)),h.set n (.cells (cellsOf z)))
  |none=>none
 | .makeSlice t l c=>match E.P.underlying t,o.dst,J5 (ev l),J5 (ev c)with
  |some (.slice e),some d,some l,some c=>match fX E.P e,gY E.P e,dB E.P e with
   |some (sz+1),some bytes,some z=>
    if 0<=l/\l<=c/\c<=9223372036854775807/\bytes*c<=140737488355328/\(cellsOf z).length=sz+1/\(1-E.A f d=0->0<l.toNat)then
     let r:=lC h n (1-E.A f d) l.toNat (sz+1) (fQ l.toNat (cellsOf z));some (some (.v r.1),r.2)
    else none
   |_,_,_=>none
  |_,_,_,_=>none
 | .makeMap _ r=>match r with
  |none=>some (some (.v (.map n)),h.set n (.map []))
  |some _=>none
 | .call {callee:= .builtin .append,args,argTypes } =>
  match argTypes.toList,args.toList with
  | [t,u],[sx,xx]=>match bJ (ev sx),bJ (ev xx),E.P.underlying t,E.P.underlying u,o.dst with
   |some s,some x,some (.slice e),some du,some d=>match fX E.P e,gY E.P e,dB E.P e with
    |some (sz+1),some (bytes+1),some z=>if(cellsOf z).length=sz+1/\kM du=true then(qH h n (E.A f d) (sz+1) (bytes+1) s x).map fun r=>(some (.v r.1),r.2)else none
    |_,_,_=>none
   |_,_,_,_,_=>none
  |_,_=>none
 |_=>none
end
section
variable {M:Meta} {h:Heap} {w:World} {E:Env} {f:FuncId} {o:Oper} {ev:Operand->Option TV} {ρ:Operand->Value} {pb:Nat->Nat}
theorem b3T(a:Inv M h w){n:Nat}(hn:h.get n= .free)(hev: ∀x tv,ev x=some tv->TR M pb tv (ρ x)){v:Option TV}(p:b3S E f o ev h n=some (v,g)):Jh E M h w o ρ v g:=by
 unfold b3S at p
 cases hop:o.op with
 |alloc t=>
  simp only [hop]at p;split at p
  case h_2=>simp at p
  split at p
  ·simp at p
  obtain⟨z,h1,h2⟩:=AD.1 p;simp at h2;obtain⟨rfl,rfl⟩:=h2;obtain⟨i,r,h3,h4,h5,h6⟩:=eI (M:=M) h1;have hc:=iQ h5 h6;have hl:(cellsOf z).length=r.cells.size:=by simpa using hc.len
  obtain⟨M',q1,q2,q3,q4⟩:=L2 a hn (fz:=(0,0)) (cs:=cellsOf z) (NewBlk.alloc w (.cells r.cells t)) (.inl (AJ _)) IM (by rw [AP (by simp;omega)];exact hc);refine⟨_,M',q1,q2,.inl ⟨_,_,rfl,?_,.ptr q3⟩⟩;simp only [execOp,hop];refine cG _ _ ?_;simp only [Instr.alloc,AU,cQ w h3 h4,AL,newVar,Go.newRow,run_newObj,AZ];rfl
 |makeSlice t lo co=>
  simp only [hop]at p;split at p
  case h_2=>simp at p
  rename_i e d l c hu hd hl hc;split at p
  case h_2=>simp at p
  rename_i sz D z a9 Z hz;split at p
  case isFalse=>simp at p
  rename_i K;obtain⟨b1,b2,b3,b4,b6,b5⟩:=K;simp only [AC,BY]at p;obtain⟨rfl,rfl⟩:=p;obtain⟨kl,c6⟩:=oI hl;obtain⟨kc,c5⟩:=oI hc;have vl:VR M (.int kl l) (ρ lo):=hev _ _ c6;have vc:VR M (.int kc c) (ρ co):=hev _ _ c5;generalize hρl:ρ lo=rl at vl;generalize hρc:ρ co=rc at vc
  cases vl
  cases vc
  obtain⟨i,G,a0⟩:=dN a9;obtain⟨i',L,a5⟩:=kP Z;rw [G]at L;simp at L;subst L;obtain⟨T,b0,X⟩:=lB (M:=M) hz G;have Y:=uH X IM l.toNat;have a7:=uH X IM c.toNat;rw [b6]at Y a7;have a6:l.toNat<=c.toNat:=IM;have d0:l.toNat*(sz+1)<=c.toNat*(sz+1):=CE _ a6;have a8:(fQ l.toNat (cellsOf z)).length=l.toNat*(sz+1):=by rw [gA,b6]
  obtain⟨M',q1,q2,q3⟩:=yE a hn (1-E.A f d) (by intro hw;rw [a8];have:=b5 hw;exact IK this (CN _)) (rc:=(Array.range (c.toNat*(sz+1))).map (T.cells[· %T.cells.size]!)) (fz:=(0,0)) (NewBlk.alloc w (.cells _ e)) (.inl (AJ _)) a8 a6 IP (by
   rw [a8];have:((Array.range (c.toNat*(sz+1))).map (T.cells[· %T.cells.size]!)).toList.take (l.toNat*(sz+1))=((Array.range (l.toNat*(sz+1))).map (T.cells[· %T.cells.size]!)).toList:=by
    apply DL;intro j
    by_cases hj:j<l.toNat*(sz+1)
    ·simp [hj,show j<c.toNat*(sz+1) by omega]
    ·have c7:min l.toNat c.toNat=l.toNat:=FJ a6;simp [hj,c7]
   rw [this];exact Y)
  refine⟨_,M',q1,q2,.inl ⟨_,_,rfl,?_,q3⟩⟩;simp only [execOp,hop,hρl,hρc];refine cG _ _ ?_;have wl:IntKind.i64.wrap l=l:=AB _ IM;have wc:IntKind.i64.wrap c=c:=AB _ IM;have t1: ∀n:Int,0<=n->n<=c->(decide (n<0)||decide ((D:Int)*n>2^48))=false:=by
   intro n h0 hn;have:(D:Int)*n<=D*c:=GI hn IM;have e1:decide (n<0)=false:=by simp;omega
   have e2:decide ((D:Int)*n>2^48)=false:=by simp;omega
   rw [e1,e2];rfl
  have c8:(typeInfo e).run E.P w= .ok i w:=by simp [typeInfo,G]
  simp only [Instr.makeSlice,AU,run_underlying hu,AL,asInt,asIntOf,AZ,c8,wl,wc,a5];have e3:(decide (c<0)||decide ((D:Int)*c>2^48)||decide (l<0)||decide (l>c))=false:=by
   rw [t1 c IM IM];have e1:decide (l<0)=false:=by simp;omega
   have e2:decide (l>c)=false:=by simp;omega
   rw [e1,e2];rfl
  have c1:i.size=sz+1:=a0;simp only [e3,BA,if_false,AZ,AL,run_askRoom,cM G,c1,AU]
  by_cases hn0:c.toNat*(sz+1)=0
  ·rw [if_pos hn0];simp only [AU,AZ,AL,Go.newRow,run_newObj,hn0];rw [sV _ (fun x=>T.cells[x%T.cells.size]!)];rfl
  ·rw [if_neg hn0];simp only [AU,AZ,AL,cQ w G b0,Go.newRow,run_newObj];rfl
 |makeMap t r=>
  simp only [hop]at p;split at p
  case h_2=>simp at p
  simp at p;obtain⟨rfl,rfl⟩:=p;obtain⟨M',q1,q2,q3⟩:=b3K a hn (NewBlk.alloc w (.map #[] 0));refine⟨_,M',q1,q2,.inl ⟨_,_,rfl,?_,.map q3⟩⟩;simp only [execOp,hop];refine cG _ _ ?_;simp only [Instr.makeMap,HT,AU,AZ,AL,run_newObj];rfl
 |call c=>
  obtain⟨V,b7,O⟩:=c;simp only [hop]at p
  cases V with
  |value x=>simp at p
  |invoke x n=>simp at p
  |builtin b=>
   cases b
   case append=>
    simp only at p;split at p
    case h_2=>simp at p
    rename_i t u sx xx c3 c2;have c0:O= #[t,u]:=by apply EL;simpa using c3
    have b9:b7= #[sx,xx]:=by apply EL;simpa using c2
    split at p
    case h_2=>simp at p
    rename_i s x e du d hs hx ht hu hd;split at p
    case h_2=>simp at p
    rename_i sz D z a9 Z hz;split at p
    case isFalse=>simp at p
    rename_i K;obtain⟨b6,hk⟩:=K;obtain⟨⟨r,d1⟩,h1,h2⟩:=AD.1 p;simp at h2;obtain⟨rfl,rfl⟩:=h2;obtain⟨i,G,a0⟩:=dN a9;obtain⟨i',L,a5⟩:=kP Z;rw [G]at L;simp at L;subst L;obtain⟨T,b0,X⟩:=lB (M:=M) hz G;have c9:T.cells.size=sz+1:=by have:=X.len;simp at this;omega
    obtain⟨rr,w',M',a1,a2,a3,a4⟩:=Cn (P:=E.P) a hn (ty:=o.type) ht G a0 a5 b0 c9 hu hk (bH hev hs) (bH hev hx) h1;refine⟨w',M',a3,a4,.inl ⟨_,rr,rfl,?_,a2⟩⟩;subst c0;subst b9;simp only [execOp,hop,resolve,invoke,AU,AZ,AL,builtin];simp only [HN,CF,FO,a1,AL]
   all_goals simp at p
 |_=>simp [hop]at p
theorem Qh{sz:Nat}{x:IV}{r:Nat×Y14}(hs:b3A sz x=some r)(h:Heap):fL h sz x=some r/\∀id off len z,x≠ .hslice id off len z:=by
 unfold b3A at hs;unfold fL
 cases x<;>simp_all
theorem b3U{n:Nat}{v:Option TV}{x:IObj}(ha:zJ E f o ev n=some (v,some x)):b3S E f o ev h n=some (v,h.set n x):=by
 unfold zJ at ha;unfold b3S
 cases hop:o.op<;>simp only [hop]at ha⊢
 all_goals try (cases ha;done)
 case alloc t=>
  split at ha
  ·rename_i d hd;split at ha
   ·cases ha
   ·rename_i T;obtain⟨z,h1,h2⟩:=AD.1 ha;simp only [BY,AC]at h2;obtain⟨rfl,rfl⟩:=h2;simp [hd,T,h1]
  ·cases ha
 case makeSlice t l c=>
  split at ha
  case h_2=>cases ha
  rename_i e d l c V hd hl G;split at ha
  case h_2=>cases ha
  rename_i sz g z p j Y;simp only [V,hd,hl,G,p,j,Y];split at ha
  ·rename_i G;simp only [AC,BY]at ha;obtain⟨rfl,rfl⟩:=ha;rw [if_pos G];rfl
  ·cases ha
 case makeMap t r=>
  split at ha
  ·simp only [AC,BY]at ha;obtain⟨rfl,rfl⟩:=ha;rfl
  ·cases ha
 case call c=>
  obtain⟨i,Z,D⟩:=c
  cases i with
  |value x=>simp at ha
  |invoke x n=>simp at ha
  |builtin b=>
   cases b<;>simp only at ha⊢
   all_goals try (cases ha;done)
   split at ha
   case h_2=>cases ha
   rename_i t u sx xx O L;split at ha
   case h_2=>cases ha
   rename_i x1 e du d hs X ht V hd;split at ha
   case h_2=>cases ha
   rename_i sz g z p j Y;simp only [O,L,hs,X,ht,V,hd,p,j,Y];split at ha
   case isFalse=>cases ha
   rename_i G;rw [if_pos G];split at ha
   case h_2=>cases ha
   rename_i k xs K;split at ha
   ·simp at ha
   rename_i hk;split at ha
   case isFalse=>cases ha
   rename_i T;simp only [AC,BY]at ha;obtain⟨rfl,rfl⟩:=ha;obtain⟨e1,e2⟩:=Qh K h;have: ∀{x:IV}(_: ∀id off len z,x≠ .hslice id off len z){m A sz g:Nat},qH h m A sz g .nilslice x=match fL h sz x with
     |some (n,xs)=>if 0<n/\n*g<=140737488355328 then some (lC h m A n sz xs)else none
     |none=>none:=by
    intro x X m A sz g;unfold qH
    cases x
    case hslice id off len z=>exact absurd rfl (X id off len z)
    all_goals rfl
   rw [this e2,e1];simp only;rw [if_pos ⟨IM,T⟩];rfl
theorem Zd{n:Nat}{v:Option TV}(ha:zJ E f o ev n=some (v,none)):fZ E f o ev h=some (v,h):=by
 unfold zJ at ha;unfold fZ
 cases hop:o.op<;>simp only [hop]at ha⊢
 all_goals try (cases ha;done)
 case alloc t=>
  split at ha
  ·split at ha
   ·cases ha
   ·obtain⟨z,h1,h2⟩:=AD.1 ha;simp at h2
  ·cases ha
 case makeSlice t l c=>
  split at ha
  case h_2=>cases ha
  split at ha
  case h_2=>cases ha
  split at ha
  ·simp at ha
  ·cases ha
 case makeMap t r=>
  split at ha
  ·simp at ha
  ·cases ha
 case call c=>
  obtain⟨g,L,i⟩:=c
  cases g with
  |value x=>simp at ha
  |invoke x n=>simp at ha
  |builtin b=>
   cases b<;>simp only at ha⊢
   all_goals try (cases ha;done)
   split at ha
   case h_2=>cases ha
   rename_i t u sx xx D A;split at ha
   case h_2=>cases ha
   rename_i x1 e du d hs Z X Y hd;split at ha
   case h_2=>cases ha
   rename_i sz p z K G hz;simp only [D,A,hs,Z,X,Y,hd,K,G,hz];split at ha
   case isFalse=>cases ha
   rename_i T;rw [if_pos T];split at ha
   case h_2=>cases ha
   rename_i k xs j;obtain⟨O,e2⟩:=Qh j h;split at ha
   ·rename_i V;simp only [AC,BY,and_true]at ha;subst ha;unfold jN
    rw [O];simp [V]
   ·split at ha
    ·simp at ha
    ·cases ha
theorem c2D(a:Inv M h w){n:Nat}(hev: ∀x tv,ev x=some tv->TR M pb tv (ρ x)){v:Option TV}{x:IObj}(g:h.get n= .free)(ha:zJ E f o ev n=some (v,some x)):Jh E M h w o ρ v (h.set n x):=b3T a g hev (b3U ha)
theorem b3V(a:Inv M h w){n:Nat}(hev: ∀x tv,ev x=some tv->TR M pb tv (ρ x)){v:Option TV}(ha:zJ E f o ev n=some (v,none)):Jh E M h w o ρ v h:=Qg a hev (Zd ha)
end
end Go.Pv
end
end
