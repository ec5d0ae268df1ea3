/-
  Texts of this proof, one after the other.
  Conditions: none.
-/
import Derived.Test.YthimicfahhgpcaaGreatW2
set_option linter.unusedVariables false
set_option linter.unusedSimpArgs false
set_option maxRecDepth 100000
set_option maxHeartbeats 4000000
noncomputable section
variable{i j k m n b q:Nat}{x y z u w:Int}{h g:Go.Pv.Heap}{d l:List Go.Pv.IV}{K L:Y12}{p s t:Go.Pv.IV}{D:Go.Pv.Meta}{V W:List Go.Value}{U:Go.TypeId}{o:Bool}{X Y:Go.Value}{r e:Y11}{O:Go.Oper}{N:Y10}{H:Array Go.Value}
section
namespace Go.Pv
section
variable {M:Meta} {h:Heap} {w:World}
def X6(g:Heap->IV->IV×Heap):Prop:=
 ∀(M:Meta)(h:Heap)(w:World)(v:IV)(r:Value),Inv M h w->VR M v r-> ∃M',Inv M' (g h v).2 w/\Pres w.heap.size M h w M' (g h v).2 w/\VR M' (g h v).1 r/\isCell (g h v).1=isCell v
theorem Ux{id l len sz:Nat}{cs:Y14}{r:Value}(a:Inv M h w)(L:h.get id= .cells cs)(h0:0<sz)(a0:l+len*sz<=cs.length)(hv:VR M (.hslice id l len sz) r):
  ∃M',Inv M' (h.set id .dead) w/\Pres w.heap.size M h w M' (h.set id .dead) w/\VR M' (.vslice none 0 len sz ((cs.drop l).take (len*sz))) r:=by
 obtain⟨b,rc,Z,l2,l3,l4,l5⟩:=a.cells id cs L
 cases hv with
 | @hslice _ _ _ _ cap b' ad hl y hlen=>
  rw [hl]at Z;simp at Z;subst Z;have X:id<h.next:=by
   rcases BB id h.next with q|q
   ·exact q
   ·rw [a.fresh id q]at L;simp at L
  let M':Meta:= {M with im:=fun c o=>if c=b' then rc[o]? else M.im c o }
  have hE:Ext M M':=⟨AG _,fun _ _ x=>x,fun c o v x=>by
   simp only [M'];split
   ·rename_i V;subst V;rw [l5]at x;simp at x
   ·exact x,fun _ _ x=>x,fun _ _=>AG _,fun _ _ _=>rfl⟩
  have g:(h.set id .dead).get id= .dead:=by rw [Heap.get_set,if_pos rfl]
  obtain⟨el,fz,R⟩:=l2.at_;have p:Inv M' (h.set id .dead) w/\Pres w.heap.size M h w M' (h.set id .dead) w:=by
   refine UpdS.done (S:=fun j=>j=id) (tb:=b') ?_ a;refine {
    get:=fun j O=>by rw [Heap.get_set,if_neg O],loc:=fun _ _=>rfl,tip:=fun _ _=>rfl,cur:=fun _ _=>rfl,heap:=fun _ _ _=>rfl,im:=fun c o V=>by simp [M',V],bsz:=fun _ _=>rfl,size:=AG _,
    os:=rfl,tape:=rfl,output:=rfl,own:= .inl ⟨id,rfl,by simp [Wb,L,hl]⟩,wb:=?_,one:=fun i i' e e' _ _=>e.trans e'.symm,ext:=hE,nid:=a.nid,fresh:=?_,freshl:=a.freshl,imtb:=?_,bsztb:=fun n x=>a.bsz b' n x,cells:=?_,tips:=?_,maps:=?_,resv:=fun i A e=>by subst A;simp [Heap.get_set]at e }
   ·intro i c e ew;subst e;simp [Wb,g]at ew
   ·intro j O;rw [Heap.next_set]at O;rw [Heap.get_set,if_neg JF];exact a.fresh j O
   ·intro o v x;simp only [M',if_true]at x;simp only [World.cell?,R,CV,AU,if_false];exact x
   ·intro i cs' e D;subst e;rw [g]at D;simp at D
   ·intro i cs' e D;subst e;rw [g]at D;simp at D
   ·intro i cs' e D;subst e;rw [g]at D;simp at D
  have z:=((l4.drop l).take (len*sz)).mono hE;have m:((cs.drop l).take (len*sz)).length=len*sz:=by simp;omega
  refine⟨M',p.1,p.2,?_⟩;refine .vslice ad (fun i=>(((rc.toList.take cs.length).drop l).take (len*sz)).getD i undef) m hlen ?_ ?_ ?_ z.2 JH (fun _=> .inl rfl)
  ·rcases y with y| ⟨rfl,n,hn,K⟩
   ·exact .inl y
   ·exact .inr ⟨rfl,n,hn,K⟩
  ·intro i A;rw [m]at A;have G:cap≠0:=by
    intro e;have:len=0:=JF;subst this;simp at A
   obtain⟨rfl,_⟩:=y.resolve_left G;have Y:l+i<rc.size:=JF;simp only [M',if_true,AC];rw [DG,if_pos A,EF,DG,if_pos JF];simp [Y]
  ·intro i A;have:=z.1.2 i A (by rw [<-z.len];exact A);simp only [AC];rw [AA (by rw [<-z.len];exact A)];exact this
theorem Uy:X6 sW:=by
 intro M h w v r a g
 by_cases e:sW h v=(v,h)
 ·rw [e];exact⟨M,a,Pres.refl _ _ _ _,g,rfl⟩
 ·cases v with
  |hslice id off len sz=>
   cases hg:h.get id with
   |cells cs=>
    by_cases hc:0<sz/\off+len*sz<=cs.length
    ·have j:sW h (.hslice id off len sz)=(.vslice none 0 len sz ((cs.drop off).take (len*sz)),h.set id .dead):=by
      simp only [sW,hg];rw [if_pos hc]
     rw [j];obtain⟨M',h1,h2,h3⟩:=Ux a hg hc.1 hc.2 g;exact⟨M',h1,h2,h3,rfl⟩
    ·exact absurd (by simp only [sW,hg];rw [if_neg hc]) e
   |tip n=>exact absurd (by simp only [sW,hg]) e
   |map es=>exact absurd (by simp only [sW,hg]) e
   |dead=>exact absurd (by simp only [sW,hg]) e
   |free=>exact absurd (by simp only [sW,hg]) e
  |_=>exact absurd rfl e
theorem I2{g:Heap->IV->IV×Heap}(y:X6 g): ∀(vs:Y14)(M:Meta)(h:Heap)(w:World)(rs:List Value),Inv M h w->cO M vs rs->
  ∃M',Inv M' (vV g h vs).2 w/\Pres w.heap.size M h w M' (vV g h vs).2 w/\cO M' (vV g h vs).1 rs/\(vV g h vs).1.length=vs.length/\((∀(i:Nat)(m:i<vs.length),isCell vs[i]=true)-> ∀(i:Nat)(m:i< (vV g h vs).1.length),isCell (vV g h vs).1[i]=true)
 | [],M,h,w,rs,a,hv=>⟨M,a,Pres.refl _ _ _ _,hv,rfl,fun l=>l⟩
 |v::vs,M,h,w,rs,a,hv=>by
  obtain⟨r,p,rfl,h1,h2⟩:=hv.uncons;obtain⟨z,D,q,G,K⟩:=y M h w v r a h1;obtain⟨A,c1,c2,L,O,R⟩:=I2 y vs z (g h v).2 w p D (h2.mono q.ext);refine⟨A,c1,q.trans c2,cO.cons (G.mono c2.ext) L,by simp [vV,O],fun l i m=>?_⟩;simp only [vV]
  cases i with
  |zero=>
   have:=l 0 JH;simp only [GA]at this⊢;rw [K];exact this
  |succ i=>
   simp only [GB];exact R (fun j V=>by have:=l (j+1) (by simpa using V);simpa using this) i (by simpa [vV]using m)
theorem I1:X6 M9:=by
 intro M h w v r a j
 cases v with
 |agg cs=>
  obtain⟨rc,rfl,g⟩:=C4 j;obtain⟨M',c1,c2,l,p,m⟩:=I2 Uy cs M h w rc a g.1;exact⟨M',c1,c2,iJ ⟨l,m g.2⟩,rfl⟩
 |_=>exact Uy M h w _ r a j
def oT(M:Meta)(id:Nat)(cs:Y14):Prop:= ∃(b:Nat)(rc:Array Value),M.loc id=some b/\cs.length<=rc.size/\(∀o v,rc[o]?=some v->M.im b o=some v)/\eG M cs (rc.toList.take cs.length)
theorem oT.mono{M M':Meta}{id:Nat}{cs:Y14}(h:oT M id cs)(g:Ext M M'):oT M' id cs:=by
 obtain⟨b,rc,h1,h2,h3,h4⟩:=h;exact⟨b,rc,g.loc _ _ h1,h2,fun o v e=>g.im _ _ _ (h3 o v e),h4.mono g⟩
theorem oT.val{M:Meta}{id g len sz:Nat}{cs:Y14}{r:Value}(h:oT M id cs)(h0:0<sz)(D:g+len*sz<=cs.length)(K:VR M (.hslice id g len sz) r):VR M (.vslice none 0 len sz ((cs.drop g).take (len*sz))) r:=by
 obtain⟨b,rc,A,R,O,L⟩:=h
 cases K with
 | @hslice _ _ _ _ cap b' ad hl l hlen=>
  rw [hl]at A;simp at A;subst A;have m:=(L.drop g).take (len*sz);have j:((cs.drop g).take (len*sz)).length=len*sz:=by simp;omega
  refine .vslice ad (fun i=>(((rc.toList.take cs.length).drop g).take (len*sz)).getD i undef) j hlen ?_ ?_ ?_ m.2 JH (fun _=> .inl rfl)
  ·rcases l with l| ⟨rfl,n,G,z⟩
   ·exact .inl l
   ·exact .inr ⟨rfl,n,G,z⟩
  ·intro i p;rw [j]at p;have q:cap≠0:=by
    intro e;have:len=0:=JF;subst this;simp at p
   obtain⟨rfl,_⟩:=l.resolve_left q;have y:g+i<rc.size:=JF;refine(O (g+i) rc[g+i] (by simp [y])).trans ?_;simp only [AC];rw [DG,if_pos p,EF,DG,if_pos JF];simp [y]
  ·intro i p;have:=m.1.2 i p (by rw [<-m.len];exact p);simp only [AC];rw [AA (by rw [<-m.len];exact p)];exact this
theorem e2C{id:Nat}{cs:Y14}(a:Inv M h w)(p:h.get id= .cells cs):
  ∃M',Inv M' (h.set id .dead) w/\Pres w.heap.size M h w M' (h.set id .dead) w/\oT M' id cs:=by
 obtain⟨b,rc,G,O,R,V,X⟩:=a.cells id cs p;have A:id<h.next:=by
  rcases BB id h.next with q|q
  ·exact q
  ·rw [a.fresh id q]at p;simp at p
 let M':Meta:= {M with im:=fun c o=>if c=b then rc[o]? else M.im c o }
 have D:Ext M M':=⟨AG _,fun _ _ x=>x,fun c o v x=>by
  simp only [M'];split
  ·rename_i z;subst z;rw [X]at x;simp at x
  ·exact x,fun _ _ x=>x,fun _ _=>AG _,fun _ _ _=>rfl⟩
 have g:(h.set id .dead).get id= .dead:=by rw [Heap.get_set,if_pos rfl]
 obtain⟨Y,fz,y⟩:=O.at_;have l:Inv M' (h.set id .dead) w/\Pres w.heap.size M h w M' (h.set id .dead) w:=by
  refine UpdS.done (S:=fun j=>j=id) (tb:=b) ?_ a;refine {
   get:=fun j r=>by rw [Heap.get_set,if_neg r],loc:=fun _ _=>rfl,tip:=fun _ _=>rfl,cur:=fun _ _=>rfl,heap:=fun _ _ _=>rfl,im:=fun c o z=>by simp [M',z],bsz:=fun _ _=>rfl,size:=AG _,
   os:=rfl,tape:=rfl,output:=rfl,own:= .inl ⟨id,rfl,by simp [Wb,p,G]⟩,wb:=?_,one:=fun i Z e e' _ _=>e.trans e'.symm,ext:=D,nid:=a.nid,fresh:=?_,freshl:=a.freshl,imtb:=?_,bsztb:=fun n x=>a.bsz b n x,cells:=?_,tips:=?_,maps:=?_,resv:=fun i L e=>by subst L;simp [Heap.get_set]at e }
  ·intro i c e K;subst e;simp [Wb,g]at K
  ·intro j r;rw [Heap.next_set]at r;rw [Heap.get_set,if_neg JF];exact a.fresh j r
  ·intro o v x;simp only [M',if_true]at x;simp only [World.cell?,y,CV,AU,if_false];exact x
  ·intro i cs' e m;subst e;rw [g]at m;simp at m
  ·intro i cs' e m;subst e;rw [g]at m;simp at m
  ·intro i cs' e m;subst e;rw [g]at m;simp at m
 exact⟨M',l.1,l.2,b,rc,G,R,fun o v e=>by simp only [M',if_true];exact e,V.mono D⟩
def Nk(M:Meta)(h0 g:Heap):Prop:= ∀(id:Nat)(cs:Y14),h0.get id= .cells cs->g.get id= .cells cs\/oT M id cs
theorem a8B{h0:Heap}{v:IV}(a:Inv M h w)(l:Nk M h0 h): ∃M',Inv M' (xP h v) w/\Pres w.heap.size M h w M' (xP h v) w/\Nk M' h0 (xP h v)/\∀id off len sz cs,v= .hslice id off len sz->h0.get id= .cells cs->oT M' id cs:=by
 cases v with
 |hslice id off len sz=>
  cases hg:h.get id with
  |cells cs=>
   have e:xP h (.hslice id off len sz)=h.set id .dead:=by simp only [xP,hg]
   rw [e];obtain⟨M',h1,h2,h3⟩:=e2C a hg;have hf: ∀g,h0.get id= .cells g->oT M' id g:=fun g e0=>by
    rcases l id g e0 with q|q
    ·rw [hg]at q
     cases q
     exact h3
    ·exact q.mono h2.ext
   refine⟨M',h1,h2,fun i g e0=>?_,fun i _ _ _ g j e0=>by cases j;exact hf g e0⟩
   by_cases c:i=id
   ·subst c;exact .inr (hf g e0)
   ·rw [Heap.get_set,if_neg c];rcases l i g e0 with q|q
    ·exact .inl q
    ·exact .inr (q.mono h2.ext)
  |_=>
   have e:xP h (.hslice id off len sz)=h:=by simp only [xP,hg]
   rw [e];refine⟨M,a,Pres.refl _ _ _ _,l,fun i _ _ _ g j e0=>?_⟩
   cases j
   rcases l id g e0 with q|q
   ·rw [hg]at q;cases q
   ·exact q
 |_=>exact⟨M,a,Pres.refl _ _ _ _,l,fun i _ _ _ g j=>by cases j⟩
theorem c2S{h0:Heap}{v:IV}{r:Value}(hf: ∀id g len sz cs,v= .hslice id g len sz->h0.get id= .cells cs->oT M id cs)(j:VR M v r):VR M (pX h0 v) r:=by
 unfold pX
 split
 ·cases j
  exact .vnil
 ·cases j with
  |vslice ad rv hn hlen ha him hvv l ht hf=>exact .vslice ad rv hn hlen ha him hvv l JH (fun _=> .inl rfl)
  |vnil=>exact .vnil
 ·rename_i id g len sz;split
  ·rename_i cs m;split
   ·rename_i l;exact(hf id g len sz cs rfl m).val l.1 l.2 j
   ·exact j
  ·exact j
 ·exact j
theorem a2E(h0:Heap)(v:IV):isCell (pX h0 v)=isCell v:=by
 unfold pX
 split
 ·rfl
 ·rfl
 ·split
  ·split<;>rfl
  ·rfl
 ·rfl
theorem Vm{h0:Heap} : ∀(vs:Y14)(M:Meta)(g:Heap)(w:World)(rs:List Value),Inv M g w->Nk M h0 g->cO M vs rs->
  ∃M',Inv M' (a8A g vs) w/\Pres w.heap.size M g w M' (a8A g vs) w/\cO M' (vs.map (pX h0)) rs
 | [],M,g,w,rs,a,_,hv=>⟨M,a,Pres.refl _ _ _ _,hv⟩
 |v::vs,M,g,w,rs,a,hr,hv=>by
  obtain⟨r,l,rfl,h1,h2⟩:=hv.uncons;obtain⟨m,q,j,y,z⟩:=a8B (v:=v) a hr;obtain⟨p,c1,c2,A⟩:=Vm vs m (xP g v) w l q y (h2.mono j.ext);exact⟨p,c1,j.trans c2,cO.cons ((c2S z (h1.mono j.ext)).mono c2.ext) A⟩
theorem b8O:X6 Ph:=by
 intro M h w v r a R;obtain⟨p,g,j,q,l⟩:=I1 M h w v r a R;unfold Ph
 split
 ·rename_i e len sz cs h' L;rw [L]at g j q l;dsimp only at g j q l⊢
  cases q with
  |vnil=>exact⟨p,g,j,.vnil,l⟩
  |vslice ad rv A hlen m him hvv hc ht hf=>
   have D:cO p cs ((List.range cs.length).map rv):=⟨JH,fun i h1 h2=>by simpa using hvv i h1⟩;obtain⟨K,c1,c2,G⟩:=Vm (h0:=h') cs p h' w _ g (fun _ _ e=> .inl e) D;refine⟨K,c1,j.trans c2,?_,l⟩;have O:(cs.map (pX h')).length=cs.length:=BG ..;refine .vslice ad rv (O.trans A) hlen ?_ (fun i y=>c2.ext.im _ _ _ (him i JF)) (fun i y=>?_) (fun i y=>?_) JH hf
   ·rcases m with m| ⟨m,n,A,z⟩
    ·exact .inl m
    ·exact .inr ⟨m,n,c2.ext.bsz _ _ A,z⟩
   ·have:=G.2 i y (by rw [<-G.1];exact y);simpa using this
   ·rw [List.getElem_map,a2E];exact hc i JF
 ·exact⟨p,g,j,q,l⟩
theorem b8P(E:Env)(f:FuncId):X6 (if E.fd f=true then Ph else M9):=by
 split
 ·exact b8O
 ·exact I1
theorem b8N:X6 d6A:=by
 intro M h w v r a g
 cases v with
 |tuple vs=>
  obtain⟨rc,rfl,l⟩:=Kz g;obtain⟨M',c1,c2,j,m,p⟩:=I2 I1 vs M h w rc a l;exact⟨M',c1,c2,dW j,rfl⟩
 |_=>exact I1 M h w _ r a g
theorem Vv{E:Env}{f:FuncId}{ts:List TypeId}{vs:Y14}{rs:List Value}(h:cO M vs rs):cO M (B4 E f ts vs) rs:=by
 unfold B4
 split
 ·exact yA h
 ·exact h
theorem Pk(E:Env)(f:FuncId){v:IV}{r:Value}(a:Inv M h w)(g:VR M v r): ∃M',Inv M' (kB E f v h).2 w/\Pres w.heap.size M h w M' (kB E f v h).2 w/\VR M' (kB E f v h).1 r:=by
 unfold kB
 split
 ·obtain⟨M',h1,h2,h3,_⟩:=b8N M h w v r a g;exact⟨M',h1,h2,h3⟩
 ·exact⟨M,a,Pres.refl _ _ _ _,g⟩
end
section
variable {E:Env} {M:Meta} {w:World} {f:FuncId} {o:Oper} {ev:Operand->Option TV} {ρ:Operand->Value} {pb:Nat->Nat}
def c6L(E:Env)(M:Meta)(w:World)(o:Oper)(ρ:Operand->Value)(pb:Nat->Nat)(tv:TV)(bx:Option (Y14)):Prop:=
 (bx=none/\∃r,(execOp ρ o).run E.P w= .ok (.value r) w/\TR M pb tv r) \/
 (∃cs d rc el,bx=some cs/\o.dst=some d/\tv= .l d 0/\(execOp ρ o).run E.P w= .ok (.value (.pointer (some ⟨w.heap.size,0,none⟩))) (w.alloc (.cells rc el))/\eG M cs rc.toList) \/
 (bx=none/\∀h,Inv M h w-> ∃w' M' x r,tv= .v x/\(execOp ρ o).run E.P w= .ok (.value r) w'/\VR M' x r/\Inv M' h w'/\Pres w.heap.size M h w M' h w')
theorem c6L.val{x:IV}{r:Value}(h:(execOp ρ o).run E.P w= .ok (.value r) w)(g:VR M x r):c6L E M w o ρ pb (.v x) none:= .inl ⟨rfl,r,h,g⟩
theorem c0H(a9: ∀b o u,M.im b o=some u->w.cell? ⟨b,o,none⟩=some u)(hev: ∀x tv,ev x=some tv->TR M pb tv (ρ x)){tv:TV}{bx:Option (Y14)}
  (h:eH E f o ev=some (tv,bx)):c6L E M w o ρ pb tv bx:=by
 unfold eH at h
 cases hop:o.op with
 |move x=>
  simp only [hop]at h;split at h
  ·cases h
  obtain⟨a,h1,h2⟩:=AE.1 h;simp at h2;obtain⟨rfl,rfl⟩:=h2;exact .inl ⟨rfl,ρ x,by simp [execOp,hop],hev _ _ h1⟩
 |assign x=>
  simp only [hop]at h;obtain⟨a,h1,h2⟩:=AE.1 h;simp at h2;obtain⟨rfl,rfl⟩:=h2;exact .inl ⟨rfl,ρ x,by simp [execOp,hop],hev _ _ h1⟩
 |pick c a b=>
  simp only [hop]at h;split at h
  ·rename_i X;obtain⟨q,h1,h2⟩:=AE.1 h;simp at h2;obtain⟨rfl,rfl⟩:=h2;have a1:VR M (.bool true) (ρ c):=hev _ _ X;generalize hρ:ρ c=rcv at a1
   cases a1
   exact .inl ⟨rfl,ρ a,by simp [execOp,hop,hρ,asBool],hev _ _ h1⟩
  ·rename_i X;obtain⟨q,h1,h2⟩:=AE.1 h;simp at h2;obtain⟨rfl,rfl⟩:=h2;have a1:VR M (.bool false) (ρ c):=hev _ _ X;generalize hρ:ρ c=rcv at a1
   cases a1
   exact .inl ⟨rfl,ρ b,by simp [execOp,hop,hρ,asBool],hev _ _ h1⟩
  ·simp at h
 |alloc t=>
  simp only [hop]at h;split at h
  case h_2=>simp at h
  rename_i d hd;split at h
  case isFalse=>simp at h
  obtain⟨z,h1,h2⟩:=AE.1 h;simp at h2;obtain⟨rfl,rfl⟩:=h2;obtain⟨i,r,h3,h4,h5,h6⟩:=eS (M:=M) h1;refine .inr (.inl ⟨_,d,r.cells,t,rfl,hd,rfl,?_,kI h5 h6⟩);simp only [execOp,hop];refine bY _ _ ?_;simp only [Instr.alloc,AQ,cG w h3 h4,AI,newVar,Go.newRow,run_newObj,AT];rfl
 |box t x=>
  simp only [hop]at h;split at h
  case h_2=>simp at h
  rename_i d v hd hv;split at h
  case isFalse=>simp at h
  rename_i X;simp at h;obtain⟨rfl,rfl⟩:=h;refine .inr (.inl ⟨_,d,(ρ x).cells,t,rfl,hd,rfl,?_,kI (bD hev hv) X.2⟩);simp only [execOp,hop];refine bY _ _ ?_;simp only [Instr.box,newVar,Go.newRow,AQ,run_newObj,AI,AT];rfl
 |build t parts=>
  simp only [hop]at h;split at h
  case h_2=>simp at h
  rename_i z ps hz hp;have a4:PR M ps (parts.map fun(i,x)=>(i,ρ x)).toList:=by
   have:=xH (M:=M) hev hp;simpa using this
  split at h
  ·rename_i fs l;split at h
   case isFalse=>simp at h
   rename_i m;obtain⟨cs,h1,h2⟩:=AE.1 h;simp at h2;obtain⟨rfl,rfl⟩:=h2;obtain⟨r,h3,h4⟩:=Hf (P:=E.P) w hz a4 (.inl ⟨fs,l,m,h1⟩);exact .val (by simp only [execOp,hop];exact bY _ _ h3) h4
  ·rename_i n e l;split at h
   case h_2=>simp at h
   rename_i sz hs;obtain⟨cs,h1,h2⟩:=AE.1 h;simp at h2;obtain⟨rfl,rfl⟩:=h2;obtain⟨r,h3,h4⟩:=Hf (P:=E.P) w hz a4 (.inr ⟨n,e,sz,l,hs,h1⟩);exact .val (by simp only [execOp,hop];exact bY _ _ h3) h4
  ·simp at h
 |buildSlice t n parts=>
  simp only [hop]at h;split at h
  case h_2=>simp at h
  rename_i e d l hd;split at h
  case isFalse=>simp at h
  split at h
  case h_2=>simp at h
  rename_i sz z ps b5 hz hp;split at h
  case isFalse=>simp at h
  rename_i a0;obtain⟨cs,h1,h2⟩:=AE.1 h;simp at h2;obtain⟨rfl,rfl⟩:=h2;have a4:PR M ps (parts.map fun(i,x)=>(i,ρ x)).toList:=by
   have:=xH (M:=M) hev hp;simpa using this
  obtain⟨ro,r1,r2,r3⟩:=sO (P:=E.P) (M:=M) w l b5 hz a0.1 a0.2 a4 h1;have b9:eG M (match E.nf f with|true=>pA (rep n (vB E.P 8 e)) cs|false=>cs) ro.toList:=by
   split
   ·exact Ja r2
   ·exact r2
  have c0:(match E.nf f with|true=>pA (rep n (vB E.P 8 e)) cs|false=>cs).length=n*(sz+1):=by
   split
   ·rw [Jb];exact r3
   ·exact r3
  refine .inr (.inr ⟨rfl,fun h hI=>?_⟩);obtain⟨M',q1,q2,q3⟩:=b9M hI (NewBlk.alloc w (.cells ro e)) c0 JF b9;exact⟨_,M',_,_,rfl,by simp only [execOp,hop];exact bY _ _ r1,q3,q1,q2⟩
 |load t a=>
  simp only [hop]at h;split at h
  case h_2=>simp at h
  rename_i cs K m;obtain⟨v,h1,h2⟩:=AE.1 h;simp at h2;obtain⟨rfl,rfl⟩:=h2;have j:VR M (.vref cs K) (ρ a):=hev _ _ m;generalize hρ:ρ a=ra at j
  cases j with
  | @vref _ _ b base rv him' hv X=>
   have b4:eG M cs ((List.range cs.length).map rv):=⟨⟨JH,fun i p q=>by simpa using hv i p⟩,X⟩;obtain⟨r,h3,h4⟩:=xS (P:=E.P) (w:=w) (b:=b) (base:=base) b4 (fun i R=>by simp at R;simpa using a9 _ _ _ (him' i R)) h1;exact .val (by simp only [execOp,hop,hρ,Instr.loadAt,Instr.sureAddr];exact bY _ _ (by simpa using h3)) h4
 |nilCheck x=>
  simp only [hop]at h;split at h
  ·rename_i s K V;simp at h;obtain⟨rfl,rfl⟩:=h;have:ρ x= .pointer (some ⟨pb s,K,none⟩):=hev _ _ V;exact .inl ⟨rfl,_,by simp [execOp,hop,this],rfl⟩
  ·rename_i id K V;simp at h;obtain⟨rfl,rfl⟩:=h;have j:VR M (.ptr id K) (ρ x):=hev _ _ V;generalize hρ:ρ x=ra at j;have D:=j
   cases j
   exact .val (by simp [execOp,hop,hρ]) D
  ·rename_i cs K V;simp at h;obtain⟨rfl,rfl⟩:=h;have j:VR M (.vref cs K) (ρ x):=hev _ _ V;generalize hρ:ρ x=ra at j;have D:=j
   cases j
   exact .val (by simp [execOp,hop,hρ]) D
  ·rename_i g a b V;simp at h;obtain⟨rfl,rfl⟩:=h;have j:VR M (.func (.func g) a b) (ρ x):=hev _ _ V;generalize hρ:ρ x=ra at j;have D:=j
   cases j
   exact .val (by simp [execOp,hop,hρ]) D
  ·rename_i t v V;simp at h;obtain⟨rfl,rfl⟩:=h;have j:VR M (.iface t v) (ρ x):=hev _ _ V;generalize hρ:ρ x=ra at j;have D:=j
   cases j
   exact .val (by simp [execOp,hop,hρ]) D
  ·simp at h
 |binOp op t x y u=>
  simp only [hop]at h;split at h
  case h_2=>simp at h
  rename_i a b m hb;obtain⟨v,h1,h2⟩:=AE.1 h;simp at h2;obtain⟨rfl,rfl⟩:=h2;obtain⟨r,h3,h4⟩:=a3O (P:=E.P) w x y rfl (bD hev m) (bD hev hb) h1;exact .val (by simp only [execOp,hop];exact bY _ _ h3) h4
 |unOp op t x=>
  simp only [hop]at h;split at h
  case h_2=>simp at h
  rename_i a m;obtain⟨v,h1,h2⟩:=AE.1 h;simp at h2;obtain⟨rfl,rfl⟩:=h2;obtain⟨r,h3,h4⟩:=c1V (P:=E.P) w (bD hev m) h1;exact .val (by simp only [execOp,hop];exact bY _ _ h3) h4
 |convert s d x=>
  simp only [hop]at h;split at h
  case h_2=>simp at h
  rename_i a m;obtain⟨v,h1,h2⟩:=AE.1 h;simp at h2;obtain⟨rfl,rfl⟩:=h2;obtain⟨r,h3,h4⟩:=Zn (P:=E.P) w a9 (bD hev m) h1;exact .val (by simp only [execOp,hop];exact bY _ _ h3) h4
 |makeInterface t x=>
  simp only [hop]at h;split at h
  case h_2=>simp at h
  rename_i a R m;simp at h;obtain⟨rfl,rfl⟩:=h;obtain⟨d,l,hd⟩:=oW R;refine .val (r:= .iface t (ρ x)) ?_ (.iface (bD hev m));simp only [execOp,hop];refine bY _ _ ?_
  cases d<;>first| (exact absurd (hd.1 ⟨_,rfl⟩) JH)|simp [Instr.makeInterface,run_underlying l]
 |makeFunc fn a b=>
  simp only [hop]at h;split at h
  case h_2=>simp at h
  rename_i xs ys V hy;simp at h;obtain⟨rfl,rfl⟩:=h;refine .val (r:= .func fn (a.map ρ) (b.map ρ)) (by simp only [execOp,hop];exact bY _ _ (by simp [Instr.makeFunc])) ?_;have h1:=mT hev V;have h2:=mT hev hy;have:=T8 (fn:=fn) h1 h2;have e: ∀a:Array Operand,(a.toList.map ρ).toArray=a.map ρ:=fun a=>by apply EN;simp
  rwa [e,e]at this
 |slice t x lo R mx=>
  simp only [hop]at h;split at h
  case h_2=>simp at h
  rename_i a m;obtain⟨v,h1,h2⟩:=AE.1 h;simp at h2;obtain⟨rfl,rfl⟩:=h2;obtain⟨r,h3,h4⟩:=Sk (P:=E.P) w (bD hev m) (xG hev lo) (xG hev R) h1;exact .val (by simp only [execOp,hop];exact bY _ _ h3) h4
 |fieldAddr t x i=>
  simp only [hop]at h;split at h
  case h_2=>simp at h
  rename_i ft K a hf m;split at h
  case h_2=>simp at h
  rename_i n hn;obtain⟨v,h1,h2⟩:=AE.1 h;simp at h2;obtain⟨rfl,rfl⟩:=h2;obtain⟨fs,fx,l,a6,rfl,rfl⟩:=xI hf;obtain⟨ii,L,O⟩:=dP hn;obtain⟨ad,he,ht⟩:=D5 h1 (hev _ _ m);refine .inl ⟨rfl,_,?_,ht⟩;simp only [execOp,hop];refine bY _ _ ?_;simp [Instr.fieldAt,run_underlying l,a6,he,Instr.sureAddr,fieldPlace,bZ L,O]
 |field t x i=>
  simp only [hop]at h;split at h
  case h_2=>simp at h
  rename_i ft K cs hf m;obtain⟨v,h1,h2⟩:=AE.1 h;simp at h2;obtain⟨rfl,rfl⟩:=h2;obtain⟨fs,fx,l,a6,rfl,rfl⟩:=xI hf;obtain⟨rc,hr,X⟩:=C4 (bD hev m);obtain⟨r,h3,h4⟩:=Xf (P:=E.P) (w:=w) X h1;refine .val ?_ h4;simp only [execOp,hop];refine bY _ _ ?_;simp [Instr.field,run_underlying l,a6,hr,asAgg,h3]
 |indexAddr t x ix=>
  simp only [hop]at h;split at h
  ·rename_i i n e R l;obtain⟨k,hk⟩:=qN R;have G:VR M (.int k i) (ρ ix):=hev _ _ hk;generalize hρi:ρ ix=ri at G
   cases G
   split at h
   case h_2=>simp at h
   rename_i sz a hs m;split at h
   case isFalse=>simp at h
   rename_i hb;obtain⟨v,h1,h2⟩:=AE.1 h;simp at h2;obtain⟨rfl,rfl⟩:=h2;obtain⟨ii,L,O⟩:=dP hs;obtain⟨ad,he,ht⟩:=D5 h1 (hev _ _ m);refine .inl ⟨rfl,_,?_,ht⟩;simp only [execOp,hop];refine bY _ _ ?_;simp [Instr.indexAt,run_underlying l,hρi,asIntOf,he,Instr.sureAddr,hb,bZ L,O]
  ·rename_i i e R l;obtain⟨k,hk⟩:=qN R;have G:VR M (.int k i) (ρ ix):=hev _ _ hk;generalize hρi:ρ ix=ri at G
   cases G
   split at h
   ·rename_i sz b7 e' len z cs hs m;split at h
    case isFalse=>simp at h
    rename_i hb;obtain⟨b1,b2,rfl⟩:=hb;simp at h;obtain⟨rfl,rfl⟩:=h;obtain⟨ii,L,O⟩:=dP hs;have j:=bD hev m;generalize hρ:ρ x=ra at j
    cases j with
    |vnil=>omega
    | @vslice _ _ _ _ cap _ a rv hn hlen ha' him' hv X ht hf=>
     have b0:=ha'.resolve_left JF;obtain⟨ab,ao,c3⟩:=a;obtain⟨a5,c2⟩:=b0;simp only at a5;subst a5;refine .inl ⟨rfl,.pointer (some ⟨ab,ao+i.toNat*z,none⟩),?_,VR.vref rv him' hv X⟩;simp only [execOp,hop];refine bY _ _ ?_;simp [Instr.indexAt,run_underlying l,hρi,hρ,asIntOf,b1,b2,bZ L,O,dG]
   ·rename_i sz b7 K len z hs m;split at h
    case isFalse=>simp at h
    rename_i hb;obtain⟨b1,b2,rfl⟩:=hb;simp at h;obtain⟨rfl,rfl⟩:=h;obtain⟨ii,L,O⟩:=dP hs;have j:=bD hev m;generalize hρ:ρ x=ra at j
    cases j with
    | @hslice _ _ _ _ cap b a hl ha' hlen=>
     obtain⟨rfl,b0⟩:=ha'.resolve_left JF;refine .inl ⟨rfl,.pointer (some ⟨b,K+i.toNat*z,none⟩),?_,VR.ptr hl⟩;simp only [execOp,hop];refine bY _ _ ?_;simp [Instr.indexAt,run_underlying l,hρi,hρ,asIntOf,b1,b2,bZ L,O,dG]
   ·simp at h
  ·simp at h
 |index t x ix=>
  simp only [hop]at h;split at h
  ·rename_i i n e cs R l m;obtain⟨k,hk⟩:=qN R;have G:VR M (.int k i) (ρ ix):=hev _ _ hk;generalize hρi:ρ ix=ri at G
   cases G
   split at h
   case h_2=>simp at h
   rename_i sz hs;split at h
   case isFalse=>simp at h
   rename_i hb;obtain⟨v,h1,h2⟩:=AE.1 h;simp at h2;obtain⟨rfl,rfl⟩:=h2;obtain⟨ii,L,O⟩:=dP hs;obtain⟨rc,hr,X⟩:=C4 (bD hev m);obtain⟨r,h3,h4⟩:=Xf (P:=E.P) (w:=w) X h1;refine .val ?_ h4;simp only [execOp,hop];refine bY _ _ ?_;simp [Instr.index,run_underlying l,hρi,hr,asIntOf,hb,bZ L,O,h3]
  ·rename_i i s R l m;obtain⟨k,hk⟩:=qN R;have G:VR M (.int k i) (ρ ix):=hev _ _ hk;generalize hρi:ρ ix=ri at G
   cases G
   split at h
   case isFalse=>simp at h
   rename_i hb;obtain⟨v,h1,h2⟩:=AE.1 h;simp at h2;obtain⟨rfl,rfl⟩:=h2;have j:=bD hev m;generalize hρ:ρ x=ra at j
   cases j with
   |str b=>
    refine .val (r:= .int .u8 v.toNat) ?_ (.int _ _);simp only [execOp,hop];refine bY _ _ ?_;have b3:b[i.toNat]?=some v:=by
     have:i.toNat<b.size:=by
      have:=AP.1 h1;simpa using this.1
     rw [getElem?_pos b i.toNat this];have h2:=h1;rw [AA (by simpa using this)]at h2;simpa [ByteArray.getElem_eq_getElem_data]using h2
    simp [Instr.index,run_underlying l,hρi,hρ,asIntOf,hb,b3]
  ·simp at h
 |extract x i=>
  simp only [hop]at h;split at h
  case h_2=>simp at h
  rename_i vs m;obtain⟨v,h1,h2⟩:=AE.1 h;simp at h2;obtain⟨rfl,rfl⟩:=h2;obtain⟨rc,hr,X⟩:=Kz (bD hev m);obtain⟨r,h3,h4⟩:=X.get h1;refine .val ?_ h4;simp only [execOp,hop];refine bY _ _ ?_;simp [Instr.extract,hr,h3]
 |typeAssert x s t ok=>
  simp only [hop]at h;split at h
  ·rename_i u v R m;obtain⟨d,l,hd⟩:=oW R;have j:=bD hev m;generalize hρ:ρ x=ra at j
   cases j with
   | @iface _ _ rv hv=>
    have a2: ∀ms,d≠ .interface ms:=fun ms e=>absurd (hd.1 ⟨ms,e⟩) JH
    split at h
    ·rename_i a8;subst a8;split at h
     ·rename_i Y;simp at h;obtain⟨rfl,rfl⟩:=h;refine .val (r:= .tuple #[rv,.bool true]) ?_ (by simpa using dW (cO.cons hv (cO.cons (.bool true) (cO.nil M))));simp only [execOp,hop];refine bY _ _ ?_
      cases d<;>first| (exact absurd rfl (a2 _))|simp [Instr.typeAssert,run_underlying l,hρ,Y]
     ·rename_i Y;simp at h;obtain⟨rfl,rfl⟩:=h;refine .val (r:=rv) ?_ hv;simp only [execOp,hop];refine bY _ _ ?_
      cases d<;>first| (exact absurd rfl (a2 _))|simp [Instr.typeAssert,run_underlying l,hρ,Y]
    ·rename_i a8;split at h
     case isFalse=>simp at h
     rename_i Y;obtain⟨z,h1,h2⟩:=AE.1 h;simp at h2;obtain⟨rfl,rfl⟩:=h2;obtain⟨i,r,h3,h4,h5,h6⟩:=eS (M:=M) h1;refine .val (r:= .tuple #[r,.bool false]) ?_ (by simpa using dW (cO.cons h5 (cO.cons (.bool false) (cO.nil M))));simp only [execOp,hop];refine bY _ _ ?_
     cases d<;>first| (exact absurd rfl (a2 _))|simp [Instr.typeAssert,run_underlying l,hρ,Y,a8,cG w h3 h4]
  ·rename_i R m;obtain⟨d,l,hd⟩:=oW R;have a2: ∀ms,d≠ .interface ms:=fun ms e=>absurd (hd.1 ⟨ms,e⟩) JH
   have j:=bD hev m;generalize hρ:ρ x=ra at j
   cases j
   split at h
   case isFalse=>simp at h
   rename_i Y;obtain⟨z,h1,h2⟩:=AE.1 h;simp at h2;obtain⟨rfl,rfl⟩:=h2;obtain⟨i,r,h3,h4,h5,h6⟩:=eS (M:=M) h1;refine .val (r:= .tuple #[r,.bool false]) ?_ (by simpa using dW (cO.cons h5 (cO.cons (.bool false) (cO.nil M))));simp only [execOp,hop];refine bY _ _ ?_
   cases d<;>first| (exact absurd rfl (a2 _))|simp [Instr.typeAssert,run_underlying l,hρ,Y,cG w h3 h4]
  ·simp at h
 |call c=>
  obtain⟨a3,args,Z⟩:=c;simp only [hop]at h
  cases a3 with
  |value x=>simp at h
  |invoke x n=>simp at h
  |builtin b=>
   cases b
   case len=>
    simp only at h;split at h
    case h_2=>simp at h
    rename_i t x ht V;obtain⟨y,hy,b6⟩:=CH.1 V;have j:=bD hev b6;have h0:(args.map ρ)[0]?=some (ρ y):=by simp [hy]
    have A: ∀r,(Builtin.len_ Z o.type (args.map ρ)).run E.P w= .ok r w->(execOp ρ o).run E.P w= .ok (.value r) w:=by
     intro r hr;simp only [execOp,hop,resolve,invoke,AQ,AT,AI,builtin,hr]
    generalize hρ:ρ y=ra at j h0;split at h
    ·rename_i s l;simp at h;obtain⟨rfl,rfl⟩:=h
     cases j
     refine .val (A _ (by simp [Builtin.len_,ht,hy,hρ,run_underlying l];rfl)) ?_;simpa [goInt]using VR.int (M:=M) _ _
    ·rename_i e l;simp at h;obtain⟨rfl,rfl⟩:=h
     cases j
     exact .val (A _ (by simp [Builtin.len_,ht,hy,hρ,run_underlying l];rfl)) (.int _ _)
    ·rename_i e i1 i2 len i3 l;simp at h;obtain⟨rfl,rfl⟩:=h;obtain⟨a,cap,rfl,_⟩:=qX j;exact .val (A _ (by simp [Builtin.len_,ht,hy,hρ,run_underlying l];rfl)) (.int _ _)
    ·rename_i e i1 i2 len i3 i4 l;simp at h;obtain⟨rfl,rfl⟩:=h;obtain⟨a,cap,rfl,_⟩:=rQ j;exact .val (A _ (by simp [Builtin.len_,ht,hy,hρ,run_underlying l];rfl)) (.int _ _)
    ·rename_i k e l;simp at h;obtain⟨rfl,rfl⟩:=h
     cases j
     exact .val (A _ (by simp [Builtin.len_,ht,hy,hρ,run_underlying l];rfl)) (.int _ _)
    ·rename_i n e l;simp at h;obtain⟨rfl,rfl⟩:=h;exact .val (A _ (by simp [Builtin.len_,ht,hy,run_underlying l];rfl)) (.int _ _)
    ·simp at h
   case min=>
    simp only at h;split at h
    case h_2=>simp at h
    rename_i x r V;obtain⟨v,h1,h2⟩:=AE.1 h;simp at h2;obtain⟨rfl,rfl⟩:=h2;obtain⟨q,c1,a7,v1,v2⟩:=(mT hev V).uncons;obtain⟨s,h3,h4⟩:=Hw (P:=E.P) w v1 v2 h1;refine .val (r:=s) ?_ h4;simp only [execOp,hop,resolve,invoke,AQ,AT,AI,builtin,Builtin.min_,HS,a7,h3]
   case max=>
    simp only at h;split at h
    case h_2=>simp at h
    rename_i x r V;obtain⟨v,h1,h2⟩:=AE.1 h;simp at h2;obtain⟨rfl,rfl⟩:=h2;obtain⟨q,c1,a7,v1,v2⟩:=(mT hev V).uncons;obtain⟨s,h3,h4⟩:=Hv (P:=E.P) w v1 v2 h1;refine .val (r:=s) ?_ h4;simp only [execOp,hop,resolve,invoke,AQ,AT,AI,builtin,Builtin.max_,HS,a7,h3]
   all_goals simp at h
 |_=>simp [hop]at h
end
section
variable {P:Program} {M:Meta} {h:Heap} {w:World}
theorem Ha{t l ty e:TypeId}{i:TypeInfo}(p:P.underlying t=some (.slice e))(m:P.info? e=some i){base:Option Addr}{len cap:Nat}{r:Value}(j:Src P i.size l r 0 [] w)(g:len<=cap):
  (Builtin.append_ #[t,l] ty #[.slice base len cap,r]).run P w= .ok (.slice base len cap) w:=by
 rcases j.kind with⟨e',hk⟩|hk<;>cases base<;>simp [Builtin.append_,run_underlying p,run_underlying hk,sizeOf,typeInfo,m,j.len,g,j.cells,storeCells]
theorem b1M(l:List Value)(o:Nat)(c:List Value)(k:Nat)(g:k=o+c.length)(j:o<=l.length):(pD l o c).take k=l.take o++c:=by
 subst g;unfold pD
 rw [CM (by simp;omega)];rw [AM (by simp;omega)]
theorem Zj(a:Inv M h w){c4 sz G:Nat}{t tx ty e:TypeId}{i:TypeInfo}{z:Value}{du:TypeDesc}{s x v:IV}{rs rx:Value}(ht:P.underlying t=some (.slice e))(hi:P.info? e=some i)(L:i.size=sz+1)(b5:i.bytes=G+1)
  (hz:i.zero=some z) (hzl:z.cells.size=sz+1) (hu:P.underlying tx=some du) (hk:mR du=true) (hs:VR M s rs) (hx:VR M x rx) (happ:lS h c4 (sz+1) (G+1) s x=some (v,g)):
  ∃r w' M',(Builtin.append_ #[t,tx] ty #[rs,rx]).run P w= .ok r w'/\VR M' v r/\Inv M' g w'/\Pres w.heap.size M h w M' g w':=by
 unfold lS at happ
 cases hsrc:fX h (sz+1) x with
 |none=>simp [hsrc]at happ
 |some q=>
  obtain⟨n,xs⟩:=q;simp only [hsrc]at happ;obtain⟨l,hc,hS⟩:=Xs (P:=P) a hu hk hx hsrc;have c2:xs.length=n*(sz+1):=(Fq (P:=P) a hx hsrc).1;have D:l.length=n*(sz+1):=by rw [<-hc.len,c2]
  rw [<-L]at hS;have a1: ∀m,(Builtin.zeroCells z.cells m).size=m*(sz+1):=fun m=>by rw [size_zeroCells,hzl]
  split at happ
  ·
   rename_i c8;subst c8;have c1:l=[]:=by simpa using D
   subst c1;have fin:v=s->g=h-> ∀base len cap,rs= .slice base len cap->len<=cap-> ∃r w' M',(Builtin.append_ #[t,tx] ty #[rs,rx]).run P w= .ok r w'/\VR M' v r/\Inv M' g w'/\Pres w.heap.size M h w M' g w':=by
    intro e1 e2 base len cap e3 b2;subst e1;subst e2;subst e3;exact⟨_,w,M,Ha ht hi hS b2,hs,a,Pres.refl _ _ _ _⟩
   split at happ
   ·simp at happ
    cases hs
    exact fin happ.1.symm happ.2.symm _ _ _ rfl (AG _)
   ·split at happ
    case isFalse=>simp at happ
    simp at happ;obtain⟨ad,cap,e3,b2,_⟩:=rQ hs;exact fin happ.1.symm happ.2.symm _ _ _ e3 b2
   ·split at happ
    case isFalse=>simp at happ
    simp at happ;obtain⟨ad,cap,e3,b2⟩:=qX hs;exact fin happ.1.symm happ.2.symm _ _ _ e3 b2
   ·simp at happ
  ·rename_i c8;have hn:0<n:=JF;split at happ
   ·
    split at happ
    case isFalse=>simp at happ
    rename_i hb;simp only [AB]at happ
    cases hs
    have R:Builtin.nextslicecap (0+n) 0*i.bytes<=281474976710656:=growslice_fits JF (by rw [b5];simpa using hb);have a6:((0+n:Nat):Int)<=9223372036854775807:=by
     have:n*1<=n*(G+1):=ES _ JF;omega
    have y:=run_append_grow_src (P:=P) w t tx ty e i z ht hi hz none 0 0 [] (run_firstCells_none w.drew i.size 0 0 0) rx n l hS JF a6 R;simp only [DX,AX]at y;have Y:=grownCap_ge w n 0 e;have c6:grownCap w n 0 e*(sz+1)<=(l.toArray++Builtin.zeroCells z.cells (grownCap w n 0 e-n)).size:=by
     simp only [FA,DP,D,a1];rw [<-Nat.add_mul];exact BZ _ JF
    obtain⟨M',r1,r2,r3⟩:=pQ a c4 (fz:=(0,0)) (sP w _) (.inl (AG _)) c2 Y c6 (by
     rw [c2,<-D];simpa using hc)
    rw [happ]at r1 r2 r3;exact⟨_,_,M',y,r3,r1,r2⟩
   ·
    rename_i len z' cs;split at happ
    case isFalse=>simp at happ
    rename_i O;obtain⟨rfl,hb⟩:=O;simp only [AB]at happ;have b6:(len+n)*(sz+1)=len*(sz+1)+n*(sz+1):=Nat.add_mul _ _ _
    cases hs with
    | @vslice _ _ _ _ cap _ ad rv a3 hlen had him hv hcc htp hfl=>
     have b9:cap=len:=by
      rcases hfl rfl with h0| ⟨_,h0,_⟩
      ·simp at h0
      ·exact h0
     subst b9;have R:Builtin.nextslicecap (cap+n) cap*i.bytes<=281474976710656:=growslice_fits JF (by rw [b5];exact hb);have a6:((cap+n:Nat):Int)<=9223372036854775807:=by
      have:(cap+n)*1<=(cap+n)*(G+1):=ES _ JF;omega
     have c0:eG M cs ((List.range cs.length).map rv):=⟨⟨JH,fun i p q=>by simpa using hv i p⟩,hcc⟩;have Z:((List.range cs.length).map rv).length=cap*i.size:=by rw [L];simp;omega
     have a4: ∀j v,((List.range cs.length).map rv)[j]?=some v->w.drew.cell? (ad.add j)=some v:=by
      intro j v K;obtain⟨h1,h2⟩:=AP.1 K;simp at h1 h2;have b4:cap≠0:=by
       intro e;subst e;simp at a3;rw [a3]at h1;simp at h1
      obtain⟨a5,_⟩:=had.resolve_left b4;obtain⟨ab,ao,c5⟩:=ad;simp only at a5;subst a5;rw [dG,<-h2];exact a.im _ _ _ (him j h1)
     have y:=run_append_grow_src (P:=P) w t tx ty e i z ht hi hz (some ad) cap cap _ (run_firstCells_some w.drew i.size cap ad cap cap _ Z a4) rx n l hS JF a6 R;have Y:=grownCap_ge w (cap+n) cap e;have a7:((((List.range cs.length).map rv)++l).toArray++Builtin.zeroCells z.cells (grownCap w (cap+n) cap e- (cap+n))).size=grownCap w (cap+n) cap e*(sz+1):=by
      have h2:(cap+n)*(sz+1)+(grownCap w (cap+n) cap e- (cap+n))*(sz+1)=grownCap w (cap+n) cap e*(sz+1):=by
       rw [<-Nat.add_mul];congr 1;omega
      simp only [FA,DP,AJ,Z,L,D,a1];omega
     have V:=c0.append hc;obtain⟨M',r1,r2,r3⟩:=pQ a c4 (fz:=(0,0)) (cs:=cs++xs) (len:=cap+n) (sz:=sz+1) (sP w _) (.inl (AG _)) (by simp;omega) Y (by rw [a7];exact AG _) (by
      have e1:(cs++xs).length=(((List.range cs.length).map rv)++l).length:=V.len;rw [GU,CM (by simpa using IU e1),AM (by simpa using IU e1.symm)];exact V)
     rw [happ]at r1 r2 r3;exact⟨_,_,M',y,r3,r1,r2⟩
   ·
    rename_i id e' len z' cs;split at happ
    case h_2=>simp at happ
    rename_i m hg;split at happ
    case isFalse=>simp at happ
    rename_i O;obtain⟨rfl,rfl,hb⟩:=O;simp only [AB,BT]at happ;obtain⟨rfl,rfl⟩:=happ;obtain⟨t0,b,d4,rc,t1,t2,t3,t4⟩:=a.tips id m hg
    cases hs with
    | @vslice _ _ _ _ cap _ ad rv a3 hlen had him hv hcc htp hfl=>
     obtain⟨p1,p0,p2,p3⟩:=htp id rfl;have b6:(len+n)*(sz+1)=len*(sz+1)+n*(sz+1):=Nat.add_mul _ _ _;have c7:0<n*(sz+1):=JC hn JF
     by_cases hroom:len+n<=cap
     ·obtain⟨a5,n0,a2,b7⟩:=had.resolve_left JF;have a8:=(p3 t0.symm).resolve_left JF;obtain⟨ab,ao,c5⟩:=ad;simp only at a5 a2 b7 a8 him;subst a5;rw [t1]at a8;simp at a8;obtain⟨rfl,rfl⟩:=a8;rw [t2.bsz]at a2;simp at a2;subst a2;have d1:(len+n)*(sz+1)<=cap*(sz+1):=BZ _ hroom;obtain⟨el,fz,a9⟩:=t2.at_;have y:=run_append_room_src (P:=P) w t tx ty e i ht hi b ao len cap rx n l hS hroom
       (by
        intro j K;rw [D]at K;rw [L];simp [World.cell?,a9,show ao+len*(sz+1)+j<rc.size by omega])
       (by
        intro j K;rw [D]at K;rw [L];exact t2.free _ JF)
      rw [L]at y;obtain⟨c3,s1,s2⟩:=iZ b l (ao+len*(sz+1)) w rc el fz a9 (by rw [D];omega);have a0:c3.size=rc.size:=by
       have:=congrArg List.length s2;rw [oO _ _ _ (by rw [D];simp;omega)]at this;simpa using this
      have b0: ∀j,(w.setCells b (ao+len*(sz+1)) l).frozen? ⟨b,j,none⟩=w.frozen? ⟨b,j,none⟩:=fun j=>World.frozen?_setCells b _ _ _ _
      obtain⟨M',q1,q2,q3,q4,q5,q6,q7⟩:=b1P a (k:=n*(sz+1)) hg t1 t2 ⟨el,fz,s1⟩ (fun j K=>by rw [b0];exact t2.free j JF) a0 (by rw [a3];omega)
       (fun j K=>by
        rw [<-Array.getElem?_toList,<-Array.getElem?_toList,s2];unfold pD
        rw [BJ (by simp;omega),BJ (by simp;omega),DG,if_pos JF]) c7
       (fun k hk=>fK b _ _ _ k hk) (fZ b _ _ _) (fY b _ _ _)
      refine⟨_,_,M',y,?_,q1,q2⟩;have hE:=q2.ext;refine .vslice ⟨b,ao,none⟩ (fun j=>if j<cs.length then rv j else l.getD (j-cs.length) undef) (by simp;omega) hroom (.inr ⟨rfl,rc.size,by rw [q6];exact t2.bsz,b7⟩) ?_ ?_ ?_ ?_ JH
      ·intro j K;simp only [AJ]at K
       by_cases A:j<cs.length
       ·simp only [A,if_true];exact hE.im _ _ _ (him j A)
       ·simp only [A,if_false];have hq:=q7 (j-cs.length) JF;rw [show ao+cs.length+(j-cs.length)=ao+j by omega]at hq;rw [hq,<-Array.getElem?_toList,s2];unfold pD
        rw [BJ (by simp;omega),BA (by simp;omega)];simp only [AR,ER];rw [show ao+j-min (ao+len*(sz+1)) rc.size=j-cs.length by omega];rw [AA JF];simp [show j-cs.length<l.length by omega]
      ·intro j K;simp only [AJ]at K
       by_cases A:j<cs.length
       ·rw [List.getElem_append_left A];simp only [A,if_true];exact(hv j A).mono hE
       ·rw [List.getElem_append_right JF];simp only [A,if_false];have:=(hc.1.2 (j-cs.length) JF JF).mono hE;simpa [show j-cs.length<l.length by omega]using this
      ·intro j K;rw [IR];split
       ·exact hcc _ _
       ·exact hc.2 _ _
      ·intro k ek;simp at ek;subst ek;refine⟨by rw [q5];exact p1,by simp;omega,by rw [q3];exact AG _,fun _=> .inr ?_⟩;rw [q4];simp;omega
     ·
      have R:Builtin.nextslicecap (len+n) cap*i.bytes<=281474976710656:=growslice_fits JF (by rw [b5];exact hb);have a6:((len+n:Nat):Int)<=9223372036854775807:=by
       have:(len+n)*1<=(len+n)*(G+1):=ES _ JF;omega
      have c0:eG M cs ((List.range cs.length).map rv):=⟨⟨JH,fun i p q=>by simpa using hv i p⟩,hcc⟩;have Z:((List.range cs.length).map rv).length=len*i.size:=by rw [L];simp;omega
      have a4: ∀j v,((List.range cs.length).map rv)[j]?=some v->w.drew.cell? (ad.add j)=some v:=by
       intro j v K;obtain⟨h1,h2⟩:=AP.1 K;simp at h1 h2;have b4:cap≠0:=by
        intro e;have:len=0:=JF;subst this;simp at a3;rw [a3]at h1;simp at h1
       obtain⟨a5,_⟩:=had.resolve_left b4;obtain⟨ab,ao,c5⟩:=ad;simp only at a5;subst a5;rw [dG,<-h2];exact a.im _ _ _ (him j h1)
      have y:=run_append_grow_src (P:=P) w t tx ty e i z ht hi hz (some ad) len cap _ (run_firstCells_some w.drew i.size len ad len cap _ Z a4) rx n l hS JF a6 R;have Y:=grownCap_ge w (len+n) cap e;have a7:((((List.range cs.length).map rv)++l).toArray++Builtin.zeroCells z.cells (grownCap w (len+n) cap e- (len+n))).size=grownCap w (len+n) cap e*(sz+1):=by
       have h2:(len+n)*(sz+1)+(grownCap w (len+n) cap e- (len+n))*(sz+1)=grownCap w (len+n) cap e*(sz+1):=by
        rw [<-Nat.add_mul];congr 1;omega
       simp only [FA,DP,AJ,Z,L,D,a1];omega
      have b1:(len+n)*(sz+1)<=grownCap w (len+n) cap e*(sz+1):=BZ _ Y;obtain⟨M',q1,q2,q3,q4,q5,q6,q7⟩:=c1S a (fz:=(0,0)) (k:=n*(sz+1)) (n:=(len+n)*(sz+1)) hg (sP w _) (.inl (AG _)) (by rw [a7];exact b1) c7;refine⟨_,_,M',y,?_,q1,q2⟩;have hE:=q2.ext;have V:=(c0.append hc).mono hE;refine .vslice ⟨w.heap.size,0,none⟩ (fun j=>(((List.range cs.length).map rv)++l).getD j undef) (by simp;omega) Y (.inr ⟨rfl,_,q6,by rw [a7];simp⟩) ?_ ?_ V.2 ?_ JH
      ·intro j K;have d2:=K;simp only [AJ]at d2;have A:j< (((List.range cs.length).map rv)++l).length:=by rw [<-V.len];exact K
       simp only [AX];rw [q7 j JF,HH (by simpa using A)];rw [DV,AA A];simp only [AC];rw [AA A];rfl
      ·intro j K;have A:j< (((List.range cs.length).map rv)++l).length:=by rw [<-V.len];exact K
       have:=V.1.2 j K A;simp only [AC];rw [AA A];exact this
      ·intro k ek;simp at ek;subst ek;refine⟨by rw [q5];exact p1,by simp;omega,by rw [q3];exact AG _,fun _=> .inr ?_⟩;rw [q4];simp;omega
   ·
    rename_i id d3 len z';split at happ
    case h_2=>simp at happ
    rename_i cs hg;split at happ
    case isFalse=>simp at happ
    rename_i O;obtain⟨rfl,rfl,a3,hb⟩:=O;simp only [AB,BT]at happ;obtain⟨rfl,rfl⟩:=happ;obtain⟨b',rc,l1,l2,l3,l4,l5⟩:=a.row hg;have b6:(len+n)*(sz+1)=len*(sz+1)+n*(sz+1):=Nat.add_mul _ _ _;have b3:(cs.take (len*(sz+1))++xs).length=(len+n)*(sz+1):=by simp;omega
    have c9:eG M (cs.take (len*(sz+1))) (rc.toList.take (len*(sz+1))):=by
     have:=l4.take (len*(sz+1))
     rwa [IE,GI a3]at this
    cases hs with
    | @hslice _ _ _ _ cap b ad hl had hlen=>
     rw [hl]at l1;simp at l1;subst l1
     by_cases hroom:len+n<=cap
     ·obtain⟨rfl,n0,a2,b7⟩:=had.resolve_left JF;rw [l2.bsz]at a2;simp at a2;subst a2;have d1:(len+n)*(sz+1)<=cap*(sz+1):=BZ _ hroom;obtain⟨el,fz,a9⟩:=l2.at_;have y:=run_append_room_src (P:=P) w t tx ty e i ht hi b 0 len cap rx n l hS hroom
       (by
        intro j K;rw [D]at K;rw [L];simp [World.cell?,a9,show len*(sz+1)+j<rc.size by omega])
       (by
        intro j K;rw [D]at K;rw [L];exact l2.free _ JF)
      rw [L]at y;obtain⟨c3,s1,s2⟩:=iZ b l (0+len*(sz+1)) w rc el fz a9 (by rw [D];omega);have a0:c3.size=rc.size:=by
       have:=congrArg List.length s2;rw [oO _ _ _ (by rw [D];simp;omega)]at this;simpa using this
      have b0: ∀j,(w.setCells b (0+len*(sz+1)) l).frozen? ⟨b,j,none⟩=w.frozen? ⟨b,j,none⟩:=fun j=>World.frozen?_setCells b _ _ _ _
      obtain⟨M',q1,q2,q3,q4⟩:=Pb a (cs':=cs.take (len*(sz+1))++xs) hg hl (fun k hk=>fK b _ _ _ k hk) (fZ b _ _ _) (fY b _ _ _)
       ⟨⟨el,fz,s1⟩,fun j K=>by rw [b0];exact l2.free j JF,by rw [a0];exact l2.bsz⟩ JF (by
        rw [s2,b3,b1M _ _ _ _ (by rw [D];omega) (by simp;omega)];rw [AX];exact c9.append hc)
      exact⟨_,_,M',y,.hslice _ q3 (.inr ⟨rfl,_,q4,by rw [a0];omega⟩) hroom,q1,q2⟩
     ·have R:Builtin.nextslicecap (len+n) cap*i.bytes<=281474976710656:=growslice_fits JF (by rw [b5];exact hb);have a6:((len+n:Nat):Int)<=9223372036854775807:=by
       have:(len+n)*1<=(len+n)*(G+1):=ES _ JF;omega
      have Z:(rc.toList.take (len*(sz+1))).length=len*i.size:=by rw [L];simp;omega
      have a4: ∀j v,(rc.toList.take (len*(sz+1)))[j]?=some v->w.drew.cell? (ad.add j)=some v:=by
       intro j v K;obtain⟨h1,h2⟩:=AP.1 K;have b4:cap≠0:=by
        intro e;have:len=0:=JF;subst this;rw [Z]at h1;simp at h1
       obtain⟨rfl,_⟩:=had.resolve_left b4;rw [dG];have d0:j< (rc.toList.take cs.length).length:=by simp at h1⊢;omega
       have:=l5 j d0;rw [<-h2];simpa using this
      have y:=run_append_grow_src (P:=P) w t tx ty e i z ht hi hz (some ad) len cap _ (run_firstCells_some w.drew i.size len ad len cap _ Z a4) rx n l hS JF a6 R;have Y:=grownCap_ge w (len+n) cap e;have a7:(((rc.toList.take (len*(sz+1)))++l).toArray++Builtin.zeroCells z.cells (grownCap w (len+n) cap e- (len+n))).size=grownCap w (len+n) cap e*(sz+1):=by
       have h2:(len+n)*(sz+1)+(grownCap w (len+n) cap e- (len+n))*(sz+1)=grownCap w (len+n) cap e*(sz+1):=by
        rw [<-Nat.add_mul];congr 1;omega
       simp only [FA,DP,AJ,Z,L,D,a1];omega
      have b1:(len+n)*(sz+1)<=grownCap w (len+n) cap e*(sz+1):=BZ _ Y;have V:=c9.append hc;obtain⟨M',q1,q2,q3,q4⟩:=Zl a (fz:=(0,0)) (cs':=cs.take (len*(sz+1))++xs) hg (sP w _) (.inl (AG _)) (by rw [a7,b3];exact b1) (by
       have e1:(cs.take (len*(sz+1))++xs).length=((rc.toList.take (len*(sz+1)))++l).length:=V.len;have e3: ∀X:List Value,X.toArray.toList.take X.length=X:=fun X=>JH
       rw [GU,CM (IU e1),e1,e3];exact V)
      exact⟨_,_,M',y,.hslice _ q3 (.inr ⟨rfl,_,q4,by rw [a7];simp⟩) Y,q1,q2⟩
   ·simp at happ
end
section
variable {M:Meta} {h:Heap} {w:World}
theorem b1Z{d:TypeDesc}{k v:IV}{g rv:Value}(m:VR M k g)(D:VR M v rv): ∀{l es':List (IV×IV)}{ents:List MapEntry}(i:Nat),uW M l ents->nT d k v l=some es'->
  (∃j e u,ents[j]?=some e/\Instr.findNow d g ents i=some (some (i+j,u))/\e.key=g/\(∀n,Instr.sameBits n e.key g=true)/\uW M es' (ents.modify j fun e=> {e with key:=g,val:=rv })) \/
  (Instr.findNow d g ents i=some none/\es'=l++ [(k,v)])
 | [],es',ents,i,hm,h=>by
  have:ents=[]:=by have:=hm.len;simpa using this.symm
  subst this;simp [nT]at h;subst h;exact .inr ⟨rfl,rfl⟩
 | (x,y)::l,es',ents,i,hm,h=>by
  obtain⟨e,q,rfl,k1,Y,h2⟩:=hm.uncons;unfold nT at h;split at h
  ·rename_i z;simp at h;subst h;obtain⟨p,R⟩:=lH z m k1;obtain⟨_,V,X⟩:=R rfl;refine .inl ⟨0,e,e.val,rfl,by simp [Instr.findNow,p],V.symm,X,?_⟩;exact uW.cons m D h2
  ·rename_i z;obtain⟨p,_⟩:=lH z m k1;obtain⟨r,r1,r2⟩:=AE.1 h;subst r2;rcases b1Z m D (i+1) h2 r1 with⟨j,e',u,A,G,K,L,O⟩| ⟨A,rfl⟩
   ·refine .inl ⟨j+1,e',u,by simpa using A,?_,K,L,uW.cons k1 Y O⟩;simp [Instr.findNow,p,G];omega
   ·refine .inr ⟨?_,rfl⟩;simp [Instr.findNow,p,A]
  ·simp at h
theorem Xx{d:TypeDesc}{k v:IV}{l rv:Value}(m:VR M k l)(A:VR M v rv): ∀{g es':List (IV×IV)}{ents:List MapEntry}(i:Nat){y:IV},uW M g ents->fE d k g=some (some y)->nT d k v g=some es'->
  ∃e u,ents[oN d k g]?=some e/\Instr.findNow d l ents i=some (some (i+oN d k g,u))/\VR M y u/\u=e.val/\e.key=l/\(∀n,Instr.sameBits n e.key l=true)/\uW M es' (ents.modify (oN d k g) fun e=> {e with key:=l,val:=rv })
 | [],es',ents,i,y,hm,hf,h=>by simp [fE]at hf
 | (x,z)::g,es',ents,i,y,hm,hf,h=>by
  obtain⟨e,q,rfl,k1,D,h2⟩:=hm.uncons;unfold nT at h;unfold fE at hf;unfold oN
  split at h
  ·rename_i j;simp only [j,AB]at hf h;subst h;subst hf;obtain⟨p,Y⟩:=lH j m k1;obtain⟨_,Z,s5⟩:=Y rfl;simp only [j];exact⟨e,e.val,rfl,by simp [Instr.findNow,p],D,rfl,Z.symm,s5,uW.cons m A h2⟩
  ·rename_i j;simp only [j]at hf;obtain⟨p,_⟩:=lH j m k1;obtain⟨r,r1,r2⟩:=AE.1 h;subst r2;obtain⟨e',u,G,K,L,O,R,V,X⟩:=Xx m A (i+1) h2 hf r1;simp only [j];refine⟨e',u,by simpa using G,?_,L,O,R,V,uW.cons k1 D X⟩;simp [Instr.findNow,p,K];omega
  ·simp at h
theorem Zx{d:TypeDesc}{k:IV}(j:VR M k X){g:List (IV×IV)}{ents:List MapEntry}(l:uW M g ents)(hf:fE d k g=some none):Instr.findNow d X ents 0=some none:=uB j 0 l hf
theorem b0H{v:IV}{rv:Value}(j:VR M v rv): ∀{g:List (IV×IV)}{ents:List MapEntry}(n:Nat),uW M g ents->uW M (Ba v n g) (ents.modify n fun e=> {e with val:=rv })
 | [],ents,n,hm=>by
  have:ents=[]:=by have:=hm.len;simpa using this.symm
  subst this;simpa [Ba]using hm
 | (x,z)::g,ents,0,hm=>by
  obtain⟨e,q,rfl,k1,l,h2⟩:=hm.uncons;exact uW.cons k1 j h2
 | (x,z)::g,ents,n+1,hm=>by
  obtain⟨e,q,rfl,k1,l,h2⟩:=hm.uncons;exact uW.cons k1 l (b0H j n h2)
def Nj(E:Env)(M:Meta)(h:Heap)(w:World)(o:Oper)(ρ:Operand->Value)(v:Option TV)(h':Heap):Prop:=
 ∃w' M',Inv M' h' w'/\Pres w.heap.size M h w M' h' w'/\
  ((∃x r,v=some (.v x)/\(execOp ρ o).run E.P w= .ok (.value r) w'/\VR M' x r) \/ (v=none/\(execOp ρ o).run E.P w= .ok .skip w'))
section
variable {E:Env} {f:FuncId} {o:Oper} {ev:Operand->Option TV} {ρ:Operand->Value} {pb:Nat->Nat}
theorem Ri(w:World)(c:Array Value)(g:TypeId): ∃fz,NewBlk w (((w.drew.alloc (.cells c g))).freeze ⟨w.heap.size,c.size,none⟩ 1) (.cells c g fz)/\c.size<=fz.1:=by
 refine⟨(c.size,c.size+1),⟨?_,?_,?_,rfl,rfl,rfl⟩,AG _⟩
 ·show((w.heap.push (.cells c g)).modify w.heap.size _)[w.heap.size]?=_;rw [DL,if_pos rfl];simp
 ·intro b j;show((w.heap.push (.cells c g)).modify w.heap.size _)[b]?=_;rw [DL,if_neg JF,FO,if_neg JF]
 ·show((w.heap.push (.cells c g)).modify w.heap.size _).size=_;simp
theorem Uo(a:Inv M h w)(hev: ∀x tv,ev x=some tv->TR M pb tv (ρ x)){v:Option TV}(D:gS E f o ev h=some (v,g)):Nj E M h w o ρ v g:=by
 unfold gS at D
 cases hop:o.op with
 |move x=>
  simp only [hop]at D;split at D
  case isFalse=>cases D
  split at D
  case h_2=>cases D
  rename_i id L len sz hx;split at D
  case h_2=>cases D
  rename_i cs hg;split at D
  case isFalse=>cases D
  rename_i hc;simp only [AB,BT]at D;obtain⟨rfl,rfl⟩:=D;obtain⟨M',h1,h2,h3⟩:=Ux a hg hc.1 hc.2 (bD hev hx);exact⟨w,M',h1,h2,.inl ⟨_,_,rfl,by simp [execOp,hop],h3⟩⟩
 |alloc t=>
  simp only [hop]at D;split at D
  case h_2=>simp at D
  split at D
  ·simp at D
  obtain⟨z,h1,h2⟩:=AE.1 D;simp at h2;obtain⟨rfl,rfl⟩:=h2;obtain⟨i,r,h3,h4,h5,h6⟩:=eS (M:=M) h1;have hc:=kI h5 h6;have hl:(cellsOf z).length=r.cells.size:=by simpa using hc.len
  obtain⟨M',q1,q2,q3,q4⟩:=B2 a (fz:=(0,0)) (cs:=cellsOf z) (NewBlk.alloc w (.cells r.cells t)) (.inl (AG _)) JF (by rw [AM (by simp;omega)];exact hc);refine⟨_,M',q1,q2,.inl ⟨_,_,rfl,?_,.ptr q3⟩⟩;simp only [execOp,hop];refine bY _ _ ?_;simp only [Instr.alloc,AQ,cG w h3 h4,AI,newVar,Go.newRow,run_newObj,AT];rfl
 |box t x=>
  simp only [hop]at D;split at D
  case h_2=>simp at D
  rename_i d v' hd hv;split at D
  ·simp at D
  split at D
  case isFalse=>simp at D
  rename_i i2;simp at D;obtain⟨rfl,rfl⟩:=D;have hc:=kI (bD hev hv) i2;have hl:(cellsOf v').length=(ρ x).cells.size:=by simpa using hc.len
  obtain⟨M',q1,q2,q3,q4⟩:=B2 a (fz:=(0,0)) (cs:=cellsOf v') (NewBlk.alloc w (.cells (ρ x).cells t)) (.inl (AG _)) JF (by rw [AM (by simp;omega)];exact hc);refine⟨_,M',q1,q2,.inl ⟨_,_,rfl,?_,.ptr q3⟩⟩;simp only [execOp,hop];refine bY _ _ ?_;simp only [Instr.box,newVar,Go.newRow,AQ,run_newObj,AI,AT];rfl
 |buildSlice t n parts=>
  simp only [hop]at D;split at D
  case h_2=>simp at D
  rename_i e d hu hd;split at D
  ·simp at D
  split at D
  case h_2=>simp at D
  rename_i sz z ps b0 hz hp;split at D
  case isFalse=>simp at D
  rename_i O;obtain⟨cs,h1,h2⟩:=AE.1 D;simp at h2;obtain⟨rfl,rfl⟩:=h2;have i3:PR M ps (parts.map fun(i,x)=>(i,ρ x)).toList:=by
   have:=xH (M:=M) hev hp;simpa using this
  obtain⟨ro,r1,r2,r3⟩:=sO (P:=E.P) (M:=M) w hu b0 hz O.1 O.2 i3 h1;have j3:ro.size=n*(sz+1):=by have:=r2.len;simp at this;omega
  obtain⟨M',q1,q2,q3⟩:=pQ a (E.A f d) (fz:=(0,0)) (NewBlk.alloc w (.cells ro e)) (.inl (AG _)) r3 (AG n) JF (by rw [AM (by simp;omega)];exact r2);exact⟨_,M',q1,q2,.inl ⟨_,_,rfl,by simp only [execOp,hop];exact bY _ _ r1,q3⟩⟩
 |makeSlice t lo co=>
  simp only [hop]at D;split at D
  case h_2=>simp at D
  rename_i e d l c hu hd hl hc;split at D
  case h_2=>simp at D
  rename_i sz X z b0 d4 hz;split at D
  case isFalse=>simp at D
  rename_i O;obtain⟨b1,b2,b3,b4,e9⟩:=O;simp only [AB,BT]at D;obtain⟨rfl,rfl⟩:=D;obtain⟨kl,i0⟩:=qN hl;obtain⟨kc,h9⟩:=qN hc;have vl:VR M (.int kl l) (ρ lo):=hev _ _ i0;have vc:VR M (.int kc c) (ρ co):=hev _ _ h9;generalize hρl:ρ lo=rl at vl;generalize hρc:ρ co=rc at vc
  cases vl
  cases vc
  obtain⟨i,Y,c0⟩:=dP b0;obtain⟨i',a8,d7⟩:=mN d4;rw [Y]at a8;simp at a8;subst a8;obtain⟨rz,e8,c9⟩:=mZ (M:=M) hz Y;have d0:=yF c9 JF l.toNat;have e6:=yF c9 JF c.toNat;rw [e9]at d0 e6;have d9:l.toNat<=c.toNat:=JF;have j2:l.toNat*(sz+1)<=c.toNat*(sz+1):=BZ _ d9;have f6:(dY l.toNat (cellsOf z)).length=l.toNat*(sz+1):=by rw [gV,e9]
  obtain⟨M',q1,q2,q3⟩:=pQ a (1-E.A f d) (rc:=(Array.range (c.toNat*(sz+1))).map (rz.cells[· %rz.cells.size]!)) (fz:=(0,0)) (NewBlk.alloc w (.cells _ e)) (.inl (AG _)) f6 d9 JH (by
   rw [f6];have:((Array.range (c.toNat*(sz+1))).map (rz.cells[· %rz.cells.size]!)).toList.take (l.toNat*(sz+1))=((Array.range (l.toNat*(sz+1))).map (rz.cells[· %rz.cells.size]!)).toList:=by
    apply CY;intro j
    by_cases hj:j<l.toNat*(sz+1)
    ·simp [hj,show j<c.toNat*(sz+1) by omega]
    ·have i1:min l.toNat c.toNat=l.toNat:=GI d9;simp [hj,i1]
   rw [this];exact d0)
  refine⟨_,M',q1,q2,.inl ⟨_,_,rfl,?_,q3⟩⟩;simp only [execOp,hop,hρl,hρc];refine bY _ _ ?_;have wl:IntKind.i64.wrap l=l:=AF _ JF;have wc:IntKind.i64.wrap c=c:=AF _ JF;have t1: ∀n:Int,0<=n->n<=c->(decide (n<0)||decide ((X:Int)*n>2^48))=false:=by
   intro n h0 hn;have:(X:Int)*n<=X*c:=EY hn JF;have e1:decide (n<0)=false:=by simp;omega
   have e2:decide ((X:Int)*n>2^48)=false:=by simp;omega
   rw [e1,e2];rfl
  have i5:(typeInfo e).run E.P w= .ok i w:=by simp [typeInfo,Y]
  simp only [Instr.makeSlice,AQ,run_underlying hu,AI,asInt,asIntOf,AT,i5,wl,wc,d7];have e3:(decide (c<0)||decide ((X:Int)*c>2^48)||decide (l<0)||decide (l>c))=false:=by
   rw [t1 c JF JF];have e1:decide (l<0)=false:=by simp;omega
   have e2:decide (l>c)=false:=by simp;omega
   rw [e1,e2];rfl
  have f2:i.size=sz+1:=c0;simp only [e3,AU,if_false,AT,AI,run_askRoom,bZ Y,f2,AQ]
  by_cases hn0:c.toNat*(sz+1)=0
  ·rw [if_pos hn0];simp only [AQ,AT,AI,Go.newRow,run_newObj,hn0];rw [wB _ (fun x=>rz.cells[x%rz.cells.size]!)];rfl
  ·rw [if_neg hn0];simp only [AQ,AT,AI,cG w Y e8,Go.newRow,run_newObj];rfl
 |makeMap t r=>
  simp only [hop]at D;split at D
  case h_2=>simp at D
  simp at D;obtain⟨rfl,rfl⟩:=D;obtain⟨M',q1,q2,q3⟩:=b9N a (NewBlk.alloc w (.map #[] 0));refine⟨_,M',q1,q2,.inl ⟨_,_,rfl,?_,.map q3⟩⟩;simp only [execOp,hop];refine bY _ _ ?_;simp only [Instr.makeMap,HY,AQ,AT,AI,run_newObj];rfl
 |convert s d x=>
  simp only [hop]at D;split at D
  case h_2=>simp at D
  rename_i ds e f9 b hs hd j1 hx;split at D
  case h_2=>simp at D
  rename_i i7;simp at D;obtain⟨rfl,rfl⟩:=D;have b6:=bD hev hx;generalize hρ:ρ x=rx at b6
  cases b6 with
  |str sb=>
   let cap:=grownCap w sb.size 0 e
   let c:Array Value:=sb.data.map (fun b=>Value.int .u8 b.toNat)++Array.replicate (cap-sb.size) (.int .u8 0)
   obtain⟨fz,nb,g9⟩:=Ri w c e;have h7:sb.size<=cap:=grownCap_ge w sb.size 0 e;have g6:c.size=cap:=by
    have e1:sb.size=sb.data.size:=rfl;simp [c];omega
   have g5:eG M (sb.data.toList.map fun b=>IV.int .u8 b.toNat) (sb.data.toList.map fun b=>Value.int .u8 b.toNat):=
    ⟨⟨JH,fun i p q=>by simpa using VR.int _ _⟩,fun i p=>by simp [isCell]⟩
   obtain⟨M',q1,q2,q3⟩:=pQ a (E.A f f9) (len:=sb.data.toList.length) (cs:=sb.data.toList.map fun b=>IV.int .u8 b.toNat) (sz:=1) (cap:=cap) nb (.inr g9) JH h7 (by rw [g6];omega) (by
    have:c.toList.take (sb.data.toList.map fun b=>IV.int .u8 (b.toNat:Int)).length=sb.data.toList.map fun b=>Value.int .u8 b.toNat:=by
     simp only [c,GU,HS,BG];rw [CM JH,AM JH]
    rw [this];exact g5)
   refine⟨_,M',q1,q2,.inl ⟨_,_,rfl,?_,q3⟩⟩;simp only [execOp,hop,hρ];refine bY _ _ ?_;have d5:(convert s d (.string sb)).run E.P w=(Conv.stringToBytes e sb).run E.P w:=by
    cases ds<;>simp [convert,run_underlying hs,run_underlying hd,run_underlying i7]
   rw [d5];simp only [Conv.stringToBytes,AQ,run_choose,Question.forced,AU,if_false,AI,Go.newRow,run_newObj,AT,markStringish,run_shape];have c7:({w with drawn:=w.drawn+1,heap:=w.heap.push (.cells c e) } :World).shape? w.heap.size=some (e,c.size):=by
    simp [World.shape?]
   have c2:World.shape? { {w with drawn:=w.drawn+1 }with heap:=({w with drawn:=w.drawn+1 } :World).heap.push (.cells c e) } ({w with drawn:=w.drawn+1 } :World).heap.size=some (e,c.size):=c7;have:=c2;simp only [c,cap,grownCap]at this;rw [this];simp only [AT,AI,run_freeze,AQ];rfl
 |store t ad x=>
  simp only [hop]at D;split at D
  case h_2=>simp at D
  rename_i id L v' ha hx;split at D
  case h_2=>simp at D
  rename_i cs hg;obtain⟨cs',h1,h2⟩:=AE.1 D;simp at h2;obtain⟨rfl,rfl⟩:=h2;have b6:VR M (.ptr id L) (ρ ad):=hev _ _ ha;generalize hρ:ρ ad=ra at b6;obtain⟨b',rc,l1,l2,l3,l4,l5⟩:=a.row hg
  cases b6 with
  | @ptr _ _ b hl=>
   rw [hl]at l1;simp at l1;subst l1;obtain⟨el,fz,c6⟩:=l2.at_;obtain⟨f8,s1,s2,s3,s4,s5,s6⟩:=Kr (P:=E.P) l4 c6 l2.free (bD hev hx) h1;have b9: ∀j,(w.setCells b L (ρ x).cells.toList).frozen? ⟨b,j,none⟩=w.frozen? ⟨b,j,none⟩:=fun j=>World.frozen?_setCells b _ _ _ _
   obtain⟨q1,q2⟩:=Bg a (cs':=cs') hg hl (fun k hk=>fK b _ _ _ k hk) (fZ b _ _ _) (fY b _ _ _)
    ⟨⟨el,fz,s2⟩,fun j hj=>by rw [b9];exact l2.free j JF,by rw [s3];exact l2.bsz⟩ JF s5
   refine⟨_,M,q1,q2,.inr ⟨rfl,?_⟩⟩;simp only [execOp,hop,hρ];refine Dh _ _ ?_;simp only [Instr.storeAt,Instr.sureAddr,AQ,AT,AI];exact s1
 |mapUpdate t m k x=>
  simp only [hop]at D;split at D
  case h_2=>simp at D
  rename_i kt et id key v' hu hm hk hx;split at D
  case h_2=>simp at D
  rename_i d es hd hg;split at D
  case isFalse=>simp at D
  rename_i d8;obtain⟨es',h1,h2⟩:=AE.1 D;simp at h2;obtain⟨rfl,rfl⟩:=h2;have a6:=bD hev hm;have a0:=bD hev hk;have c8:=bD hev hx;generalize hρ:ρ m=rm at a6
  cases a6 with
  | @map _ b hl=>
   obtain⟨b',ents,clock,g1,g2,g3,g4⟩:=a.maps id es hg;rw [hl]at g1;simp at g1;subst g1;have b7:=rM (M:=M) (emp:=false) hd d8 a0 w 9999;have a7:(getObj b).run E.P w= .ok (.map ents clock) w:=by simp [getObj,Sem.run,g2]
   have Z: ∀ob,(setObj b ob).run E.P w= .ok () {w with heap:=w.heap.setIfInBounds b ob } :=by
    intro ob;simp [setObj,Sem.run,g2]
   have a5:b<w.heap.size:=cP g2;have fin: ∀K G,uW M es' K.toList/\Na K G->(Instr.mapUpdate t (.map (some b)) (ρ k) (ρ x)).run E.P w= .ok () {w with heap:=w.heap.setIfInBounds b (.map K G) } ->Nj E M h w o ρ none (h.set id (.map es')):=by
    intro K G e4 c1;obtain⟨q1,q2⟩:=Fp (w':= {w with heap:=w.heap.setIfInBounds b (.map K G) }) a (ents:=K) (clock:=G) (es':=es') hg hl (fun j hj=>by simp [CP,show¬ (b=j)from fun e=>hj e.symm]) JH ⟨rfl,rfl,rfl⟩ (by simp [CP,a5]) e4;refine⟨_,M,q1,q2,.inr ⟨rfl,?_⟩⟩;simp only [execOp,hop,hρ];exact Dh _ _ c1
   rcases b1Z a0 c8 0 g3 h1 with⟨j,e,u,p1,p2,p3,p4,p5⟩| ⟨p1,rfl⟩
   ·refine fin (ents.modify j fun e=> {e with key:=ρ k,val:=ρ x }) clock ⟨by rw [GV];exact p5,g4.modify _ _ (fun _=>rfl)⟩ ?_;have hj:ents[j]?=some e:=by rw [<-Array.getElem?_toList];exact p1
    have a9:(Instr.keyThatStays (((ents[j]?).map (·.key)).getD (ρ k)) (ρ k)).run E.P w= .ok (ρ k) w:=by
     simp [hj,Instr.keyThatStays,p4]
    simp only [AX]at p2;simp only [Instr.mapUpdate,AQ,run_underlying hu,AI,a7,b7,Instr.findKey,run_underlying hd,p2,AT,a9,Z]
   ·refine fin (ents.push {key:=ρ k,val:=ρ x,born:=clock }) (clock+1) ?_ ?_
    ·refine⟨?_,g4.push _ _⟩;rw [Array.toList_push];exact⟨by simpa using g3.1.append (cO.cons a0 (cO.nil M)),by simpa using g3.2.append (cO.cons c8 (cO.nil M))⟩
    ·simp only [Instr.mapUpdate,AQ,run_underlying hu,AI,a7,b7,Instr.findKey,run_underlying hd,p1,AT,Z]
 |mapEntry t m k=>
  simp only [hop]at D;split at D
  case h_2=>simp at D
  rename_i kt et id key hu hm hk;split at D
  case h_2=>simp at D
  rename_i d es z hd hg hz;split at D
  case isFalse=>simp at D
  rename_i d8;obtain⟨⟨rv,rn,es'⟩,h1,h2⟩:=AE.1 D;simp only [AB,BT]at h2;obtain⟨rfl,rfl⟩:=h2;have a6:=bD hev hm;have a0:=bD hev hk;generalize hρ:ρ m=rm at a6
  cases a6 with
  | @map _ b hl=>
   obtain⟨b',ents,clock,g1,g2,g3,g4⟩:=a.maps id es hg;rw [hl]at g1;simp at g1;subst g1;have b7:=rM (M:=M) (emp:=false) hd d8 a0 w 9999;have a7:(getObj b).run E.P w= .ok (.map ents clock) w:=by simp [getObj,Sem.run,g2]
   have Z: ∀ob,(setObj b ob).run E.P w= .ok () {w with heap:=w.heap.setIfInBounds b ob } :=by
    intro ob;simp [setObj,Sem.run,g2]
   have a5:b<w.heap.size:=cP g2;have fin: ∀K G r,uW M es' K.toList/\Na K G->VR M (.tuple [rv,.int .i64 rn]) r->(Instr.mapEntry t (.map (some b)) (ρ k)).run E.P w= .ok r {w with heap:=w.heap.setIfInBounds b (.map K G) } ->Nj E M h w o ρ (some (.v (.tuple [rv,.int .i64 rn]))) (h.set id (.map es')):=by
    intro K G r e4 hr c1;obtain⟨q1,q2⟩:=Fp (w':= {w with heap:=w.heap.setIfInBounds b (.map K G) }) a (ents:=K) (clock:=G) (es':=es') hg hl (fun j hj=>by simp [CP,show¬ (b=j)from fun e=>hj e.symm]) JH ⟨rfl,rfl,rfl⟩ (by simp [CP,a5]) e4;refine⟨_,M,q1,q2,.inl ⟨_,r,rfl,?_,hr⟩⟩;simp only [execOp,hop,hρ];exact bY _ _ c1
   unfold a5V at h1;split at h1
   ·rename_i y hf;obtain⟨j4,u1,u2⟩:=AE.1 h1;simp only [BT]at u2;obtain⟨rfl,rfl,rfl⟩:=u2;obtain⟨j0,u0,_,i8⟩:=uB a0 0 g3 hf;obtain⟨e,u,p1,p2,p3,p4,p5,p6,p7⟩:=Xx (v:=y) (rv:=u0) a0 i8 0 g3 hf u1;have hj:ents[oN d key es]?=some e:=by rw [<-Array.getElem?_toList];exact p1
    simp only [AX]at p2;rename_i j6 _;have i6:u0=u:=by
     have:=(‹Instr.findNow d (ρ k) ents.toList 0=some (some (j0,u0))›);rw [p2]at this;simp only [AB,BT]at this;exact this.2.symm
    subst i6;have f5:(ents.modify (oN d key es) fun e=> {e with key:=ρ k,val:=u0 })=ents.modify (oN d key es) fun e=> {e with key:=ρ k } :=by
     apply Array.ext_getElem?;intro j;rw [DL,DL];split
     ·rename_i h8;rw [<-h8,hj];simp [p4]
     ·rfl
    refine fin (ents.modify (oN d key es) fun e=> {e with key:=ρ k }) clock (.tuple #[u0,goInt (oN d key es)]) ⟨?_,g4.modify _ _ (fun _=>rfl)⟩ (dW (cO.cons p3 (cO.cons (.int _ _) (cO.nil M)))) ?_
    ·rw [<-f5,GV];exact p7
    have a9:(Instr.keyThatStays (((ents[oN d key es]?).map (·.key)).getD (ρ k)) (ρ k)).run E.P w= .ok (ρ k) w:=by
     simp [hj,Instr.keyThatStays,p6]
    have d3:(((ents[oN d key es]?).map (fun x=>(x.born:Int))).getD 0)=(oN d key es:Int):=by
     rw [hj];have:=g4.2 _ _ hj;simp [this]
    simp only [Instr.mapEntry,AQ,run_underlying hu,AI,a7,b7,Instr.findKey,run_underlying hd,p2,AT,a9,Z,d3]
   ·rename_i hf;simp only [AB,BT]at h1;obtain⟨rfl,rfl,rfl⟩:=h1;obtain⟨i,r,z1,z2,z3,z4⟩:=eS (M:=M) hz;have g8:=Zx a0 g3 hf;have g0:clock=es.length:=by rw [g4.1];have:=g3.len;simpa using this.symm
    refine fin (ents.push {key:=ρ k,val:=r,born:=clock }) (clock+1) (.tuple #[r,goInt clock]) ⟨?_,g4.push _ _⟩ (dW (cO.cons z3 (cO.cons (by rw [g0];exact .int _ _) (cO.nil M)))) ?_
    ·rw [Array.toList_push];exact⟨by simpa using g3.1.append (cO.cons a0 (cO.nil M)),by simpa using g3.2.append (cO.cons z3 (cO.nil M))⟩
    ·simp only [Instr.mapEntry,AQ,run_underlying hu,AI,a7,b7,Instr.findKey,run_underlying hd,g8,AT,cG w z1 z2,Z]
   ·cases h1
 |entryStore t m s x=>
  simp only [hop]at D;split at D
  case h_2=>simp at D
  rename_i id kd n v' hm hs hx;split at D
  case h_2=>simp at D
  rename_i es hg;split at D
  case isFalse=>simp at D
  rename_i hn;simp only [AB,BT]at D;obtain⟨rfl,rfl⟩:=D;have a6:=bD hev hm;have c4:=bD hev hs;have c8:=bD hev hx;generalize hρ:ρ m=rm at a6;generalize hρs:ρ s=rs at c4
  cases c4
  cases a6 with
  | @map _ b hl=>
   obtain⟨b',ents,clock,g1,g2,g3,g4⟩:=a.maps id es hg;rw [hl]at g1;simp at g1;subst g1;have a7:(getObj b).run E.P w= .ok (.map ents clock) w:=by simp [getObj,Sem.run,g2]
   have Z: ∀ob,(setObj b ob).run E.P w= .ok () {w with heap:=w.heap.setIfInBounds b ob } :=by
    intro ob;simp [setObj,Sem.run,g2]
   have a5:b<w.heap.size:=cP g2;have f3:es.length=ents.size:=by have:=g3.len;simpa using this
   have e5:n.toNat<ents.size:=JF;have g7:ents.findIdx? (fun e=>(e.born:Int)==n)=some n.toNat:=by
    rw [Array.findIdx?_eq_some_iff_getElem];refine⟨e5,?_,fun j hj=>?_⟩
    ·have:=g4.2 n.toNat _ (HN e5);rw [this];simp;omega
    ·have:=g4.2 j _ (HN JF);rw [this];simp;omega
   obtain⟨q1,q2⟩:=Fp (w':= {w with heap:=w.heap.setIfInBounds b (.map (ents.modify n.toNat fun e=> {e with val:=ρ x }) clock) }) a (ents:=ents.modify n.toNat fun e=> {e with val:=ρ x }) (clock:=clock) (es':=Ba v' n.toNat es) hg hl (fun j hj=>by simp [CP,show¬ (b=j)from fun e=>hj e.symm]) JH ⟨rfl,rfl,rfl⟩ (by simp [CP,a5]) ⟨by rw [GV];exact b0H c8 _ g3,g4.modify _ _ (fun _=>rfl)⟩;refine⟨_,M,q1,q2,.inr ⟨rfl,?_⟩⟩;simp only [execOp,hop,hρ,hρs];refine Dh _ _ ?_;simp only [Instr.entryStore,AQ,AT,AI,a7,asInt,asIntOf,g7,Z]
 |call c=>
  obtain⟨c5,args,V⟩:=c;simp only [hop]at D
  cases c5 with
  |value x=>simp at D
  |invoke x n=>simp at D
  |builtin b=>
   cases b
   case append=>
    simp only at D;split at D
    case h_2=>simp at D
    rename_i t u sx xx d2 d1;have f0:V= #[t,u]:=by apply EN;simpa using d2
    have b5:args= #[sx,xx]:=by apply EN;simpa using d1
    split at D
    case h_2=>simp at D
    rename_i s x e du d hs hx ht hu hd;split at D
    case h_2=>simp at D
    rename_i sz X z b0 d4 hz;split at D
    case isFalse=>simp at D
    rename_i O;obtain⟨e9,hk⟩:=O;obtain⟨⟨r,j5⟩,h1,h2⟩:=AE.1 D;simp at h2;obtain⟨rfl,rfl⟩:=h2;obtain⟨i,Y,c0⟩:=dP b0;obtain⟨i',a8,d7⟩:=mN d4;rw [Y]at a8;simp at a8;subst a8;obtain⟨rz,e8,c9⟩:=mZ (M:=M) hz Y;have i9:rz.cells.size=sz+1:=by have:=c9.len;simp at this;omega
    obtain⟨rr,w',M',a1,a2,a3,a4⟩:=Zj (P:=E.P) a (ty:=o.type) ht Y c0 d7 e8 i9 hu hk (bD hev hs) (bD hev hx) h1;refine⟨w',M',a3,a4,.inl ⟨_,rr,rfl,?_,a2⟩⟩;subst f0;subst b5;simp only [execOp,hop,resolve,invoke,AQ,AT,AI,builtin];simp only [HT,BP,DJ,a1,AI]
   case copy=>
    simp only at D;split at D
    case h_2=>simp at D
    rename_i t ts sx xx d2 d1;have b5:args= #[sx,xx]:=by apply EN;simpa using d1
    split at D
    case h_2=>simp at D
    rename_i id L len z x e hs hx ht;split at D
    case h_2=>simp at D
    rename_i sz cs b0 hg;split at D
    case h_2=>simp at D
    rename_i n xs f7;split at D
    case isFalse=>simp at D
    rename_i O;obtain⟨rfl,j7⟩:=O;simp only [AB,BT]at D;obtain⟨rfl,rfl⟩:=D;obtain⟨i,Y,c0⟩:=dP b0;obtain⟨s1,s2,s3,s4⟩:=Fq (P:=E.P) a (bD hev hx) f7;obtain⟨R,n1,n2,n3,n4⟩:=s4 (min n len) (Nat.min_le_left _ _);obtain⟨b',rc,l1,l2,l3,l4,l5⟩:=a.row hg;have c4:=bD hev hs;generalize hρ:ρ sx=rs at c4;have f1:V[0]?=some t:=by rw [<-Array.getElem?_toList,d2];rfl
    cases c4 with
    | @hslice _ _ _ _ cap b ad hl had f3=>
     rw [hl]at l1;simp at l1;subst l1;have j8:min n len*(sz+1)<=len*(sz+1):=BZ _ (Nat.min_le_right _ _);have e5:(xs.take (min n len*(sz+1))).length=R.length:=n1.len;obtain⟨el,fz,c6⟩:=l2.at_;obtain⟨f8,e1,e2⟩:=iZ b R L w rc el fz c6 JF;have e7:f8.size=rc.size:=by
      have:=congrArg List.length e2;rw [oO _ _ _ (by simp;omega)]at this;simpa using this
     have b9: ∀j,(w.setCells b L R).frozen? ⟨b,j,none⟩=w.frozen? ⟨b,j,none⟩:=fun j=>World.frozen?_setCells b _ _ _ _
     have c3:(spl cs L (xs.take (min n len*(sz+1)))).length=cs.length:=by
      simp only [spl,AJ,AR,DM];omega
     obtain⟨q1,q2⟩:=Bg a (cs':=spl cs L (xs.take (min n len*(sz+1)))) hg hl (fun k hk=>fK b _ _ _ k hk) (fZ b _ _ _) (fY b _ _ _)
      ⟨⟨el,fz,e1⟩,fun j hj=>by rw [b9];exact l2.free j JF,by rw [e7];exact l2.bsz⟩ (by rw [c3];omega) (by
       rw [c3,e2];have:(pD rc.toList L R).take cs.length=pD (rc.toList.take cs.length) L R:=by
        simp only [pD];rw [FG,FG];simp only [AR,AJ,IE,ER];rw [show min L rc.size=L from JF,show min cs.length L=L from JF,show min L cs.length=L from JF];rw [AM (l:=R) JF,List.drop_take]
       rw [this];exact l4.spl n1 L)
     refine⟨_,M,q1,q2,.inl ⟨_,goInt (min n len:Nat),rfl,?_,.int _ _⟩⟩;subst b5;simp only [execOp,hop,resolve,invoke,AQ,AT,AI,builtin];have d6:(Builtin.copy_ V o.type #[.slice (some ad) len cap,ρ xx]).run E.P w= .ok (goInt (min n len:Nat)) (w.setCells b L R):=by
      have i4:(storeCells ad R 0).run E.P w= .ok () (w.setCells b L R):=by
       by_cases h0:cap=0
       ·have:R=[]:=by
         have:min n len=0:=JF;rw [this]at n2;simpa using n2
        subst this;rfl
       ·obtain⟨rfl,_⟩:=had.resolve_left h0;exact run_storeCells_cells (P:=E.P) b L R 0 w (by
         intro j hj;simp [World.cell?,c6,show L+j<rc.size by omega]) (by
         intro j hj;simpa using l2.free (L+j) JF) n1.one
      have f4:Nat.min n len=min n len:=rfl;simp [Builtin.copy_,f1,run_underlying ht,s2,bZ Y,c0,f4,n3,i4]
     simp only [HT,BP,DJ,hρ,d6,AI]
   all_goals simp at D
 |_=>simp [hop]at D
end
end
end Go.Pv
end
section
namespace Go.Pv
open Go
def sN(h:Heap)(m j sz g:Nat)(s x:IV):Option (IV×Heap):=match s,x with
 | .nilslice,.hslice _ _ _ _=>none
 | .nilslice,x=>match fX h sz x with
  |some (n,xs)=>if 0<n/\n*g<=140737488355328 then some (nM h m j n sz xs)else none
  |none=>none
 |_,_=>none
section
variable {P:Program} {M:Meta} {h:Heap} {w:World}
theorem Gz(a:Inv M h w){m:Nat}(Y:h.get m= .free){L sz j:Nat}{t tx ty e:TypeId}{i:TypeInfo}{z:Value}{du:TypeDesc}{s x v:IV}{rs rx:Value}(ht:P.underlying t=some (.slice e))(hi:P.info? e=some i)(Z:i.size=sz+1)(V:i.bytes=j+1)
  (hz:i.zero=some z) (hzl:z.cells.size=sz+1) (hu:P.underlying tx=some du) (hk:mR du=true) (hs:VR M s rs) (hx:VR M x rx) (happ:sN h m L (sz+1) (j+1) s x=some (v,g)):
  ∃r w' M',(Builtin.append_ #[t,tx] ty #[rs,rx]).run P w= .ok r w'/\VR M' v r/\Inv M' g w'/\Pres w.heap.size M h w M' g w':=by
 unfold sN at happ;split at happ
 ·simp at happ
 ·split at happ
  case h_2=>simp at happ
  rename_i n xs y;split at happ
  case isFalse=>simp at happ
  rename_i R;obtain⟨hn,hb⟩:=R;simp only [AB]at happ
  cases hs
  obtain⟨l,hc,hS⟩:=Xs (P:=P) a hu hk hx y;have p:xs.length=n*(sz+1):=(Fq (P:=P) a hx y).1;have K:l.length=n*(sz+1):=by rw [<-hc.len,p]
  rw [<-Z]at hS;have A: ∀m,(Builtin.zeroCells z.cells m).size=m*(sz+1):=fun m=>by rw [size_zeroCells,hzl]
  have G:Builtin.nextslicecap (0+n) 0*i.bytes<=281474976710656:=growslice_fits JF (by rw [V];simpa using hb);have O:((0+n:Nat):Int)<=9223372036854775807:=by
   have:n*1<=n*(j+1):=ES _ JF;omega
  have q:=run_append_grow_src (P:=P) w t tx ty e i z ht hi hz none 0 0 [] (run_firstCells_none w.drew i.size 0 0 0) rx n l hS JF O G;simp only [DX,AX]at q;have X:=grownCap_ge w n 0 e;have D:grownCap w n 0 e*(sz+1)<=(l.toArray++Builtin.zeroCells z.cells (grownCap w n 0 e-n)).size:=by
   simp only [FA,DP,K,A];rw [<-Nat.add_mul];exact BZ _ JF
  obtain⟨M',r1,r2,r3⟩:=E5 a Y L (fun _=>by rw [p];exact JC hn (CN _)) (fz:=(0,0)) (sP w _) (.inl (AG _)) p X D (by
   rw [p,<-K];simpa using hc)
  rw [happ]at r1 r2 r3;exact⟨_,_,M',q,r3,r1,r2⟩
 ·simp at happ
end
section
variable (E:Env) (f:FuncId) (o:Oper) (ev:Operand->Option TV) (h:Heap) (n:Nat)
def b7U:Option (Option TV×Heap):=
 match o.op with
 | .alloc t=>match o.dst with
  |some d=>if E.bx f d=0 then none else(dD E.P t).map fun z=>(some (.v (.ptr n 0)),h.set n (.cells (cellsOf z)))
  |none=>none
 | .makeSlice t l c=>match E.P.underlying t,o.dst,W3 (ev l),W3 (ev c)with
  |some (.slice e),some d,some l,some c=>match gP E.P e,jI E.P e,dD E.P e with
   |some (sz+1),some bytes,some z=>
    if 0<=l/\l<=c/\c<=9223372036854775807/\bytes*c<=140737488355328/\(cellsOf z).length=sz+1/\(1-E.A f d=0->0<l.toNat)then
     let r:=nM h n (1-E.A f d) l.toNat (sz+1) (dY l.toNat (cellsOf z));some (some (.v r.1),r.2)
    else none
   |_,_,_=>none
  |_,_,_,_=>none
 | .makeMap _ r=>match r with
  |none=>some (some (.v (.map n)),h.set n (.map []))
  |some _=>none
 | .call {callee:= .builtin .append,args,argTypes } =>
  match argTypes.toList,args.toList with
  | [t,u],[sx,xx]=>match bE (ev sx),bE (ev xx),E.P.underlying t,E.P.underlying u,o.dst with
   |some s,some x,some (.slice e),some du,some d=>match gP E.P e,jI E.P e,dD E.P e with
    |some (sz+1),some (bytes+1),some z=>if(cellsOf z).length=sz+1/\mR du=true then(sN h n (E.A f d) (sz+1) (bytes+1) s x).map fun r=>(some (.v r.1),r.2)else none
    |_,_,_=>none
   |_,_,_,_,_=>none
  |_,_=>none
 |_=>none
end
section
variable {M:Meta} {h:Heap} {w:World} {E:Env} {f:FuncId} {o:Oper} {ev:Operand->Option TV} {ρ:Operand->Value} {pb:Nat->Nat}
theorem b7W(a:Inv M h w){n:Nat}(hn:h.get n= .free)(hev: ∀x tv,ev x=some tv->TR M pb tv (ρ x)){v:Option TV}(m:b7U E f o ev h n=some (v,g)):Nj E M h w o ρ v g:=by
 unfold b7U at m
 cases hop:o.op with
 |alloc t=>
  simp only [hop]at m;split at m
  case h_2=>simp at m
  split at m
  ·simp at m
  obtain⟨z,h1,h2⟩:=AE.1 m;simp at h2;obtain⟨rfl,rfl⟩:=h2;obtain⟨i,r,h3,h4,h5,h6⟩:=eS (M:=M) h1;have hc:=kI h5 h6;have hl:(cellsOf z).length=r.cells.size:=by simpa using hc.len
  obtain⟨M',q1,q2,q3,q4⟩:=Ab a hn (fz:=(0,0)) (cs:=cellsOf z) (NewBlk.alloc w (.cells r.cells t)) (.inl (AG _)) JF (by rw [AM (by simp;omega)];exact hc);refine⟨_,M',q1,q2,.inl ⟨_,_,rfl,?_,.ptr q3⟩⟩;simp only [execOp,hop];refine bY _ _ ?_;simp only [Instr.alloc,AQ,cG w h3 h4,AI,newVar,Go.newRow,run_newObj,AT];rfl
 |makeSlice t lo co=>
  simp only [hop]at m;split at m
  case h_2=>simp at m
  rename_i e d l c hu hd hl hc;split at m
  case h_2=>simp at m
  rename_i sz p z a6 V hz;split at m
  case isFalse=>simp at m
  rename_i y;obtain⟨b1,b2,b3,b4,a8,b5⟩:=y;simp only [AB,BT]at m;obtain⟨rfl,rfl⟩:=m;obtain⟨kl,c1⟩:=qN hl;obtain⟨kc,c0⟩:=qN hc;have vl:VR M (.int kl l) (ρ lo):=hev _ _ c1;have vc:VR M (.int kc c) (ρ co):=hev _ _ c0;generalize hρl:ρ lo=rl at vl;generalize hρc:ρ co=rc at vc
  cases vl
  cases vc
  obtain⟨i,q,X⟩:=dP a6;obtain⟨i',D,Y⟩:=mN V;rw [q]at D;simp at D;subst D;obtain⟨K,a7,O⟩:=mZ (M:=M) hz q;have R:=yF O JF l.toNat;have a0:=yF O JF c.toNat;rw [a8]at R a0;have Z:l.toNat<=c.toNat:=JF;have c5:l.toNat*(sz+1)<=c.toNat*(sz+1):=BZ _ Z;have a5:(dY l.toNat (cellsOf z)).length=l.toNat*(sz+1):=by rw [gV,a8]
  obtain⟨M',q1,q2,q3⟩:=E5 a hn (1-E.A f d) (by intro hw;rw [a5];have:=b5 hw;exact JC this (CN _)) (rc:=(Array.range (c.toNat*(sz+1))).map (K.cells[· %K.cells.size]!)) (fz:=(0,0)) (NewBlk.alloc w (.cells _ e)) (.inl (AG _)) a5 Z JH (by
   rw [a5];have:((Array.range (c.toNat*(sz+1))).map (K.cells[· %K.cells.size]!)).toList.take (l.toNat*(sz+1))=((Array.range (l.toNat*(sz+1))).map (K.cells[· %K.cells.size]!)).toList:=by
    apply CY;intro j
    by_cases hj:j<l.toNat*(sz+1)
    ·simp [hj,show j<c.toNat*(sz+1) by omega]
    ·have c2:min l.toNat c.toNat=l.toNat:=GI Z;simp [hj,c2]
   rw [this];exact R)
  refine⟨_,M',q1,q2,.inl ⟨_,_,rfl,?_,q3⟩⟩;simp only [execOp,hop,hρl,hρc];refine bY _ _ ?_;have wl:IntKind.i64.wrap l=l:=AF _ JF;have wc:IntKind.i64.wrap c=c:=AF _ JF;have t1: ∀n:Int,0<=n->n<=c->(decide (n<0)||decide ((p:Int)*n>2^48))=false:=by
   intro n h0 hn;have:(p:Int)*n<=p*c:=EY hn JF;have e1:decide (n<0)=false:=by simp;omega
   have e2:decide ((p:Int)*n>2^48)=false:=by simp;omega
   rw [e1,e2];rfl
  have c3:(typeInfo e).run E.P w= .ok i w:=by simp [typeInfo,q]
  simp only [Instr.makeSlice,AQ,run_underlying hu,AI,asInt,asIntOf,AT,c3,wl,wc,Y];have e3:(decide (c<0)||decide ((p:Int)*c>2^48)||decide (l<0)||decide (l>c))=false:=by
   rw [t1 c JF JF];have e1:decide (l<0)=false:=by simp;omega
   have e2:decide (l>c)=false:=by simp;omega
   rw [e1,e2];rfl
  have b6:i.size=sz+1:=X;simp only [e3,AU,if_false,AT,AI,run_askRoom,bZ q,b6,AQ]
  by_cases hn0:c.toNat*(sz+1)=0
  ·rw [if_pos hn0];simp only [AQ,AT,AI,Go.newRow,run_newObj,hn0];rw [wB _ (fun x=>K.cells[x%K.cells.size]!)];rfl
  ·rw [if_neg hn0];simp only [AQ,AT,AI,cG w q a7,Go.newRow,run_newObj];rfl
 |makeMap t r=>
  simp only [hop]at m;split at m
  case h_2=>simp at m
  simp at m;obtain⟨rfl,rfl⟩:=m;obtain⟨M',q1,q2,q3⟩:=b9E a hn (NewBlk.alloc w (.map #[] 0));refine⟨_,M',q1,q2,.inl ⟨_,_,rfl,?_,.map q3⟩⟩;simp only [execOp,hop];refine bY _ _ ?_;simp only [Instr.makeMap,HY,AQ,AT,AI,run_newObj];rfl
 |call c=>
  obtain⟨L,args,G⟩:=c;simp only [hop]at m
  cases L with
  |value x=>simp at m
  |invoke x n=>simp at m
  |builtin b=>
   cases b
   case append=>
    simp only at m;split at m
    case h_2=>simp at m
    rename_i t u sx xx b9 b7;have b0:G= #[t,u]:=by apply EN;simpa using b9
    have a9:args= #[sx,xx]:=by apply EN;simpa using b7
    split at m
    case h_2=>simp at m
    rename_i s x e du d hs hx ht hu hd;split at m
    case h_2=>simp at m
    rename_i sz p z a6 V hz;split at m
    case isFalse=>simp at m
    rename_i y;obtain⟨a8,hk⟩:=y;obtain⟨⟨r,c6⟩,h1,h2⟩:=AE.1 m;simp at h2;obtain⟨rfl,rfl⟩:=h2;obtain⟨i,q,X⟩:=dP a6;obtain⟨i',D,Y⟩:=mN V;rw [q]at D;simp at D;subst D;obtain⟨K,a7,O⟩:=mZ (M:=M) hz q;have c4:K.cells.size=sz+1:=by have:=O.len;simp at this;omega
    obtain⟨rr,w',M',a1,a2,a3,a4⟩:=Gz (P:=E.P) a hn (ty:=o.type) ht q X Y a7 c4 hu hk (bD hev hs) (bD hev hx) h1;refine⟨w',M',a3,a4,.inl ⟨_,rr,rfl,?_,a2⟩⟩;subst b0;subst a9;simp only [execOp,hop,resolve,invoke,AQ,AT,AI,builtin];simp only [HT,BP,DJ,a1,AI]
   all_goals simp at m
 |_=>simp [hop]at m
theorem Xr{sz:Nat}{x:IV}{r:Nat×Y14}(g:c1O sz x=some r)(h:Heap):fX h sz x=some r/\∀id off len z,x≠ .hslice id off len z:=by
 unfold c1O at g;unfold fX
 cases x<;>simp_all
theorem b7V{n:Nat}{v:Option TV}{x:IObj}(g:H7 E f o ev n=some (v,some x)):b7U E f o ev h n=some (v,h.set n x):=by
 unfold H7 at g;unfold b7U
 cases hop:o.op<;>simp only [hop]at g⊢
 all_goals try (cases g;done)
 case alloc t=>
  split at g
  ·rename_i d hd;split at g
   ·cases g
   ·rename_i R;obtain⟨z,h1,h2⟩:=AE.1 g;simp only [BT,AB]at h2;obtain⟨rfl,rfl⟩:=h2;simp [hd,R,h1]
  ·cases g
 case makeSlice t l c=>
  split at g
  case h_2=>cases g
  rename_i e d l c V hd hl G;split at g
  case h_2=>cases g
  rename_i sz j z y q Y;simp only [V,hd,hl,G,y,q,Y];split at g
  ·rename_i G;simp only [AB,BT]at g;obtain⟨rfl,rfl⟩:=g;rw [if_pos G];rfl
  ·cases g
 case makeMap t r=>
  split at g
  ·simp only [AB,BT]at g;obtain⟨rfl,rfl⟩:=g;rfl
  ·cases g
 case call c=>
  obtain⟨p,args,D⟩:=c
  cases p with
  |value x=>simp at g
  |invoke x n=>simp at g
  |builtin b=>
   cases b<;>simp only at g⊢
   all_goals try (cases g;done)
   split at g
   case h_2=>cases g
   rename_i t u sx xx O L;split at g
   case h_2=>cases g
   rename_i x1 e du d hs X ht V hd;split at g
   case h_2=>cases g
   rename_i sz j z y q Y;simp only [O,L,hs,X,ht,V,hd,y,q,Y];split at g
   case isFalse=>cases g
   rename_i G;rw [if_pos G];split at g
   case h_2=>cases g
   rename_i k xs K;split at g
   ·simp at g
   rename_i hk;split at g
   case isFalse=>cases g
   rename_i R;simp only [AB,BT]at g;obtain⟨rfl,rfl⟩:=g;obtain⟨Z,e2⟩:=Xr K h;have: ∀{x:IV}(_: ∀id off len z,x≠ .hslice id off len z){m A sz j:Nat},sN h m A sz j .nilslice x=match fX h sz x with
     |some (n,xs)=>if 0<n/\n*j<=140737488355328 then some (nM h m A n sz xs)else none
     |none=>none:=by
    intro x X m A sz j;unfold sN
    cases x
    case hslice id off len z=>exact absurd rfl (X id off len z)
    all_goals rfl
   rw [this e2,Z];simp only;rw [if_pos ⟨JF,R⟩];rfl
theorem a3I{n:Nat}{v:Option TV}(g:H7 E f o ev n=some (v,none)):gS E f o ev h=some (v,h):=by
 unfold H7 at g;unfold gS
 cases hop:o.op<;>simp only [hop]at g⊢
 all_goals try (cases g;done)
 case alloc t=>
  split at g
  ·split at g
   ·cases g
   ·obtain⟨z,h1,h2⟩:=AE.1 g;simp at h2
  ·cases g
 case makeSlice t l c=>
  split at g
  case h_2=>cases g
  split at g
  case h_2=>cases g
  split at g
  ·simp at g
  ·cases g
 case makeMap t r=>
  split at g
  ·simp at g
  ·cases g
 case call c=>
  obtain⟨j,args,m⟩:=c
  cases j with
  |value x=>simp at g
  |invoke x n=>simp at g
  |builtin b=>
   cases b<;>simp only at g⊢
   all_goals try (cases g;done)
   split at g
   case h_2=>cases g
   rename_i t u sx xx A y;split at g
   case h_2=>cases g
   rename_i x1 e du d R Y V X hd;split at g
   case h_2=>cases g
   rename_i sz q z G D Z;simp only [A,y,R,Y,V,X,hd,G,D,Z];split at g
   case isFalse=>cases g
   rename_i L;rw [if_pos L];split at g
   case h_2=>cases g
   rename_i k xs p;obtain⟨K,e2⟩:=Xr p h;split at g
   ·rename_i O;simp only [AB,BT,and_true]at g;subst g;unfold lS
    rw [K];simp [O]
   ·split at g
    ·simp at g
    ·cases g
theorem c6N(a:Inv M h w){n:Nat}(hev: ∀x tv,ev x=some tv->TR M pb tv (ρ x)){v:Option TV}{x:IObj}(j:h.get n= .free)(g:H7 E f o ev n=some (v,some x)):Nj E M h w o ρ v (h.set n x):=b7W a j hev (b7V g)
theorem b7X(a:Inv M h w){n:Nat}(hev: ∀x tv,ev x=some tv->TR M pb tv (ρ x)){v:Option TV}(g:H7 E f o ev n=some (v,none)):Nj E M h w o ρ v h:=Uo a hev (a3I g)
end
end Go.Pv
end
end
