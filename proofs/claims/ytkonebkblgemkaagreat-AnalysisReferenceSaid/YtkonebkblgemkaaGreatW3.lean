/-
  Texts of this proof, one after the other.
  Conditions: none.
-/
import Derived.Test.YtkonebkblgemkaaGreatW2
set_option linter.unusedVariables false
set_option linter.unusedSimpArgs false
set_option maxRecDepth 100000
set_option maxHeartbeats 4000000
noncomputable section
variable{i j m b:Nat}{x y z u v:Int}{h g:Go.Pv.Heap}{c d l:List Go.Pv.IV}{K L:Y12}{s t:Go.Pv.IV}{D:Go.Pv.Meta}{V W:List Go.Value}{T U:Go.TypeId}{o:Bool}{X Y:Go.Value}{r:Y11}{O:Go.Oper}{N:Y10}{H:Array Go.Value}
section
namespace Go.Pv
section
variable {M:Meta} {h:Heap} {w:World}
def Mm(g:Heap->IV->IV×Heap):Prop:=
 ∀(M:Meta)(h:Heap)(w:World)(v:IV)(r:Value),Inv M h w->VR M v r-> ∃M',Inv M' (g h v).2 w/\Pres w.heap.size M h w M' (g h v).2 w/\VR M' (g h v).1 r/\isCell (g h v).1=isCell v
theorem a6Q{id l len sz:Nat}{cs:Y14}{r:Value}(a:Inv M h w)(L:h.get id= .cells cs)(h0:0<sz)(a0:l+len*sz<=cs.length)(hv:VR M (.hslice id l len sz) r):
  ∃M',Inv M' (h.set id .dead) w/\Pres w.heap.size M h w M' (h.set id .dead) w/\VR M' (.vslice none 0 len sz ((cs.drop l).take (len*sz))) r:=by
 obtain⟨b,rc,Y,l2,l3,l4,l5⟩:=a.cells id cs L
 cases hv with
 | @hslice _ _ _ _ cap b' ad hl y hlen=>
  rw [hl]at Y;simp at Y;subst Y;have V:id<h.next:=by
   rcases BK id h.next with q|q
   .exact q
   .rw [a.fresh id q]at L;simp at L
  let M':Meta:= {M with im:=λc o=>if c=b' then rc[o]? else M.im c o }
  have Z:Ext M M':=⟨AF _,λ_ _ x=>x,λc o v x=>by
   simp only [M'];split
   .rename_i T;subst T;rw [l5]at x;simp at x
   .exact x,λ_ _ x=>x,λ_ _=>AF _,λ_ _ _=>rfl⟩
  have g:(h.set id .dead).get id= .dead:=by rw [Heap.get_set,if_pos rfl]
  obtain⟨el,fz,R⟩:=l2.at_;have u:Inv M' (h.set id .dead) w/\Pres w.heap.size M h w M' (h.set id .dead) w:=by
   refine UpdS.done (S:=λj=>j=id) (tb:=b') ?_ a;refine {
    get:=λj O=>by rw [Heap.get_set,if_neg O],loc:=λ_ _=>rfl,tip:=λ_ _=>rfl,cur:=λ_ _=>rfl,heap:=λ_ _ _=>rfl,im:=λc o T=>by simp [M',T],bsz:=λ_ _=>rfl,size:=AF _,
    os:=rfl,tape:=rfl,output:=rfl,own:= .inl ⟨id,rfl,by simp [Wb,L,hl]⟩,wb:=?_,one:=λi i' e e' _ _=>e.trans e'.symm,ext:=Z,nid:=a.nid,fresh:=?_,freshl:=a.freshl,imtb:=?_,bsztb:=λn x=>a.bsz b' n x,cells:=?_,tips:=?_,maps:=?_,resv:=λi A e=>by subst A;simp [Heap.get_set]at e }
   .intro i c e ew;subst e;simp [Wb,g]at ew
   .intro j O;rw [Heap.next_set]at O;rw [Heap.get_set,if_neg JZ];exact a.fresh j O
   .intro o v x;simp only [M',if_true]at x;simp only [World.cell?,R,DD,BA,if_false];exact x
   .intro i cs' e D;subst e;rw [g]at D;simp at D
   .intro i cs' e D;subst e;rw [g]at D;simp at D
   .intro i cs' e D;subst e;rw [g]at D;simp at D
  have z:=((l4.drop l).take (len*sz)).mono Z;have m:((cs.drop l).take (len*sz)).length=len*sz:=by simp;omega
  refine⟨M',u.1,u.2,?_⟩;refine .vslice ad (λi=>(((rc.toList.take cs.length).drop l).take (len*sz)).getD i undef) m hlen ?_ ?_ ?_ z.2 KB (λ_=> .inl rfl)
  .rcases y with y| ⟨rfl,n,hn,K⟩
   .exact .inl y
   .exact .inr ⟨rfl,n,hn,K⟩
  .intro i A;rw [m]at A;have G:cap≠0:=by
    intro e;have:len=0:=JZ;subst this;simp at A
   obtain⟨rfl,_⟩:=y.resolve_left G;have X:l+i<rc.size:=JZ;simp only [M',if_true,AH];rw [DI,if_pos A,DS,DI,if_pos JZ];simp [X]
  .intro i A;have:=z.1.2 i A (by rw [<-z.len];exact A);simp only [AH];rw [AB (by rw [<-z.len];exact A)];exact this
theorem Qs:Mm mH:=by
 intro M h w v r a g
 by_cases e:mH h v=(v,h)
 .rw [e];exact⟨M,a,Pres.refl _ _ _ _,g,rfl⟩
 .cases v with
  |hslice id off len sz=>
   cases hg:h.get id with
   |cells cs=>
    by_cases hc:0<sz/\off+len*sz<=cs.length
    .have i:mH h (.hslice id off len sz)=(.vslice none 0 len sz ((cs.drop off).take (len*sz)),h.set id .dead):=by
      simp only [mH,hg];rw [if_pos hc]
     rw [i];obtain⟨M',h1,h2,h3⟩:=a6Q a hg hc.1 hc.2 g;exact⟨M',h1,h2,h3,rfl⟩
    .exact absurd (by simp only [mH,hg];rw [if_neg hc]) e
   |tip n=>exact absurd (by simp only [mH,hg]) e
   |map es=>exact absurd (by simp only [mH,hg]) e
   |dead=>exact absurd (by simp only [mH,hg]) e
   |free=>exact absurd (by simp only [mH,hg]) e
  |_=>exact absurd rfl e
theorem F9{g:Heap->IV->IV×Heap}(A:Mm g): ∀(vs:Y14)(M:Meta)(h:Heap)(w:World)(rs:List Value),Inv M h w->cU M vs rs->
  ∃M',Inv M' (nN g h vs).2 w/\Pres w.heap.size M h w M' (nN g h vs).2 w/\cU M' (nN g h vs).1 rs/\(nN g h vs).1.length=vs.length/\((∀(i:Nat)(m:i<vs.length),isCell vs[i]=true)-> ∀(i:Nat)(m:i< (nN g h vs).1.length),isCell (nN g h vs).1[i]=true)
 | [],M,h,w,rs,a,hv=>⟨M,a,Pres.refl _ _ _ _,hv,rfl,λl=>l⟩
 |v::vs,M,h,w,rs,a,hv=>by
  obtain⟨r,u,rfl,h1,h2⟩:=hv.uncons;obtain⟨D,K,y,L,O⟩:=A M h w v r a h1;obtain⟨G,R,z,T,V,X⟩:=F9 A vs D (g h v).2 w u K (h2.mono y.ext);refine⟨G,R,y.trans z,cU.cons (L.mono z.ext) T,by simp [nN,V],λl i m=>?_⟩;simp only [nN]
  cases i with
  |zero=>
   have:=l 0 KB;simp only [GS]at this⊢;rw [O];exact this
  |succ i=>
   simp only [FD];exact X (λj Y=>by have:=l (j+1) (by simpa using Y);simpa using this) i (by simpa [nN]using m)
theorem Bp:Mm Dp:=by
 intro M h w v r a i
 cases v with
 |agg cs=>
  obtain⟨rc,rfl,g⟩:=wT i;obtain⟨M',j,l,m,y,u⟩:=F9 Qs cs M h w rc a g.1;exact⟨M',j,l,jM ⟨m,u g.2⟩,rfl⟩
 |_=>exact Qs M h w _ r a i
def rI(M:Meta)(id:Nat)(cs:Y14):Prop:= ∃(b:Nat)(rc:Array Value),M.loc id=some b/\cs.length<=rc.size/\(∀o v,rc[o]?=some v->M.im b o=some v)/\eP M cs (rc.toList.take cs.length)
theorem rI.mono{M M':Meta}{id:Nat}{cs:Y14}(h:rI M id cs)(g:Ext M M'):rI M' id cs:=by
 obtain⟨b,rc,h1,h2,h3,h4⟩:=h;exact⟨b,rc,g.loc _ _ h1,h2,λo v e=>g.im _ _ _ (h3 o v e),h4.mono g⟩
theorem rI.val{M:Meta}{id g len sz:Nat}{cs:Y14}{r:Value}(h:rI M id cs)(h0:0<sz)(G:g+len*sz<=cs.length)(L:VR M (.hslice id g len sz) r):VR M (.vslice none 0 len sz ((cs.drop g).take (len*sz))) r:=by
 obtain⟨b,rc,D,T,R,O⟩:=h
 cases L with
 | @hslice _ _ _ _ cap b' ad hl l hlen=>
  rw [hl]at D;simp at D;subst D;have m:=(O.drop g).take (len*sz);have j:((cs.drop g).take (len*sz)).length=len*sz:=by simp;omega
  refine .vslice ad (λi=>(((rc.toList.take cs.length).drop g).take (len*sz)).getD i undef) j hlen ?_ ?_ ?_ m.2 KB (λ_=> .inl rfl)
  .rcases l with l| ⟨rfl,n,K,A⟩
   .exact .inl l
   .exact .inr ⟨rfl,n,K,A⟩
  .intro i u;rw [j]at u;have y:cap≠0:=by
    intro e;have:len=0:=JZ;subst this;simp at u
   obtain⟨rfl,_⟩:=l.resolve_left y;have z:g+i<rc.size:=JZ;refine(R (g+i) rc[g+i] (by simp [z])).trans ?_;simp only [AH];rw [DI,if_pos u,DS,DI,if_pos JZ];simp [z]
  .intro i u;have:=m.1.2 i u (by rw [<-m.len];exact u);simp only [AH];rw [AB (by rw [<-m.len];exact u)];exact this
theorem f4I{id:Nat}{cs:Y14}(a:Inv M h w)(r:h.get id= .cells cs):
  ∃M',Inv M' (h.set id .dead) w/\Pres w.heap.size M h w M' (h.set id .dead) w/\rI M' id cs:=by
 obtain⟨b,rc,G,L,O,R,T⟩:=a.cells id cs r;have A:id<h.next:=by
  rcases BK id h.next with q|q
  .exact q
  .rw [a.fresh id q]at r;simp at r
 let M':Meta:= {M with im:=λc o=>if c=b then rc[o]? else M.im c o }
 have D:Ext M M':=⟨AF _,λ_ _ x=>x,λc o v x=>by
  simp only [M'];split
  .rename_i z;subst z;rw [T]at x;simp at x
  .exact x,λ_ _ x=>x,λ_ _=>AF _,λ_ _ _=>rfl⟩
 have g:(h.set id .dead).get id= .dead:=by rw [Heap.get_set,if_pos rfl]
 obtain⟨V,fz,y⟩:=L.at_;have l:Inv M' (h.set id .dead) w/\Pres w.heap.size M h w M' (h.set id .dead) w:=by
  refine UpdS.done (S:=λj=>j=id) (tb:=b) ?_ a;refine {
   get:=λj u=>by rw [Heap.get_set,if_neg u],loc:=λ_ _=>rfl,tip:=λ_ _=>rfl,cur:=λ_ _=>rfl,heap:=λ_ _ _=>rfl,im:=λc o z=>by simp [M',z],bsz:=λ_ _=>rfl,size:=AF _,
   os:=rfl,tape:=rfl,output:=rfl,own:= .inl ⟨id,rfl,by simp [Wb,r,G]⟩,wb:=?_,one:=λi X e e' _ _=>e.trans e'.symm,ext:=D,nid:=a.nid,fresh:=?_,freshl:=a.freshl,imtb:=?_,bsztb:=λn x=>a.bsz b n x,cells:=?_,tips:=?_,maps:=?_,resv:=λi K e=>by subst K;simp [Heap.get_set]at e }
  .intro i c e ew;subst e;simp [Wb,g]at ew
  .intro j u;rw [Heap.next_set]at u;rw [Heap.get_set,if_neg JZ];exact a.fresh j u
  .intro o v x;simp only [M',if_true]at x;simp only [World.cell?,y,DD,BA,if_false];exact x
  .intro i cs' e m;subst e;rw [g]at m;simp at m
  .intro i cs' e m;subst e;rw [g]at m;simp at m
  .intro i cs' e m;subst e;rw [g]at m;simp at m
 exact⟨M',l.1,l.2,b,rc,G,O,λo v e=>by simp only [M',if_true];exact e,R.mono D⟩
def a0F(M:Meta)(h0 g:Heap):Prop:= ∀(id:Nat)(cs:Y14),h0.get id= .cells cs->g.get id= .cells cs\/rI M id cs
theorem c0F{h0:Heap}{v:IV}(a:Inv M h w)(l:a0F M h0 h): ∃M',Inv M' (G9 h v) w/\Pres w.heap.size M h w M' (G9 h v) w/\a0F M' h0 (G9 h v)/\∀id off len sz cs,v= .hslice id off len sz->h0.get id= .cells cs->rI M' id cs:=by
 cases v with
 |hslice id off len sz=>
  cases hg:h.get id with
  |cells cs=>
   have e:G9 h (.hslice id off len sz)=h.set id .dead:=by simp only [G9,hg]
   rw [e];obtain⟨M',h1,h2,h3⟩:=f4I a hg;have hf: ∀g,h0.get id= .cells g->rI M' id g:=λg e0=>by
    rcases l id g e0 with q|q
    .rw [hg]at q
     cases q
     exact h3
    .exact q.mono h2.ext
   refine⟨M',h1,h2,λi g e0=>?_,λi _ _ _ g j e0=>by cases j;exact hf g e0⟩
   by_cases c:i=id
   .subst c;exact .inr (hf g e0)
   .rw [Heap.get_set,if_neg c];rcases l i g e0 with q|q
    .exact .inl q
    .exact .inr (q.mono h2.ext)
  |_=>
   have e:G9 h (.hslice id off len sz)=h:=by simp only [G9,hg]
   rw [e];refine⟨M,a,Pres.refl _ _ _ _,l,λi _ _ _ g j e0=>?_⟩
   cases j
   rcases l id g e0 with q|q
   .rw [hg]at q;cases q
   .exact q
 |_=>exact⟨M,a,Pres.refl _ _ _ _,l,λi _ _ _ g j=>by cases j⟩
theorem d2F{h0:Heap}{v:IV}{r:Value}(hf: ∀id g len sz cs,v= .hslice id g len sz->h0.get id= .cells cs->rI M id cs)(i:VR M v r):VR M (sP h0 v) r:=by
 unfold sP
 split
 .cases i
  exact .vnil
 .cases i with
  |vslice ad rv hn hlen ha him hvv j ht hf=>exact .vslice ad rv hn hlen ha him hvv j KB (λ_=> .inl rfl)
  |vnil=>exact .vnil
 .rename_i id g len sz;split
  .rename_i cs l;split
   .rename_i j;exact(hf id g len sz cs rfl l).val j.1 j.2 i
   .exact i
  .exact i
 .exact i
theorem b3I(h0:Heap)(v:IV):isCell (sP h0 v)=isCell v:=by
 unfold sP
 split
 .rfl
 .rfl
 .split
  .split<;>rfl
  .rfl
 .rfl
theorem a7F{h0:Heap} : ∀(vs:Y14)(M:Meta)(g:Heap)(w:World)(rs:List Value),Inv M g w->a0F M h0 g->cU M vs rs->
  ∃M',Inv M' (c0E g vs) w/\Pres w.heap.size M g w M' (c0E g vs) w/\cU M' (vs.map (sP h0)) rs
 | [],M,g,w,rs,a,_,hv=>⟨M,a,Pres.refl _ _ _ _,hv⟩
 |v::vs,M,g,w,rs,a,hr,hv=>by
  obtain⟨r,j,rfl,h1,h2⟩:=hv.uncons;obtain⟨m,y,i,z,A⟩:=c0F (v:=v) a hr;obtain⟨u,D,l,G⟩:=a7F vs m (G9 g v) w j y z (h2.mono i.ext);exact⟨u,D,i.trans l,cU.cons ((d2F A (h1.mono i.ext)).mono l.ext) G⟩
theorem c7Z:Mm a1S:=by
 intro M h w v r a X;obtain⟨u,g,j,y,l⟩:=Bp M h w v r a X;unfold a1S
 split
 .rename_i e len sz cs h' T;rw [T]at g j y l;dsimp only at g j y l⊢
  cases y with
  |vnil=>exact⟨u,g,j,.vnil,l⟩
  |vslice ad rv G hlen m him hvv hc ht hf=>
   have K:cU u cs ((List.range cs.length).map rv):=⟨KB,λi h1 h2=>by simpa using hvv i h1⟩;obtain⟨O,R,A,L⟩:=a7F (h0:=h') cs u h' w _ g (λ_ _ e=> .inl e) K;refine⟨O,R,j.trans A,?_,l⟩;have V:(cs.map (sP h')).length=cs.length:=AX ..;refine .vslice ad rv (V.trans G) hlen ?_ (λi z=>A.ext.im _ _ _ (him i JZ)) (λi z=>?_) (λi z=>?_) KB hf
   .rcases m with m| ⟨m,n,G,D⟩
    .exact .inl m
    .exact .inr ⟨m,n,A.ext.bsz _ _ G,D⟩
   .have:=L.2 i z (by rw [<-L.1];exact z);simpa using this
   .rw [List.getElem_map,b3I];exact hc i JZ
 .exact⟨u,g,j,y,l⟩
theorem c8A(E:Env)(f:FuncId):Mm (if E.fd f=true then a1S else Dp):=by
 split
 .exact c7Z
 .exact Bp
theorem c7Y:Mm e8C:=by
 intro M h w v r a g
 cases v with
 |tuple vs=>
  obtain⟨rc,rfl,m⟩:=Ym g;obtain⟨M',i,j,l,u,y⟩:=F9 Bp vs M h w rc a m;exact⟨M',i,j,eH l,rfl⟩
 |_=>exact Bp M h w _ r a g
theorem a7S{E:Env}{f:FuncId}{ts:List TypeId}{vs:Y14}{rs:List Value}(h:cU M vs rs):cU M (X0 E f ts vs) rs:=by
 unfold X0
 split
 .exact sJ h
 .exact h
theorem a1U(E:Env)(f:FuncId){v:IV}{r:Value}(a:Inv M h w)(g:VR M v r): ∃M',Inv M' (lO E f v h).2 w/\Pres w.heap.size M h w M' (lO E f v h).2 w/\VR M' (lO E f v h).1 r:=by
 unfold lO
 split
 .obtain⟨M',h1,h2,h3,_⟩:=c7Y M h w v r a g;exact⟨M',h1,h2,h3⟩
 .exact⟨M,a,Pres.refl _ _ _ _,g⟩
end
section
variable {E:Env} {M:Meta} {w:World} {f:FuncId} {o:Oper} {ev:Operand->Option TV} {ρ:Operand->Value} {pb:Nat->Nat}
def d7A(E:Env)(M:Meta)(w:World)(o:Oper)(ρ:Operand->Value)(pb:Nat->Nat)(tv:TV)(bx:Option (Y14)):Prop:=
 (bx=none/\∃r,(execOp ρ o).run E.P w= .ok (.value r) w/\TR M pb tv r) \/
 (∃cs d rc el,bx=some cs/\o.dst=some d/\tv= .l d 0/\(execOp ρ o).run E.P w= .ok (.value (.pointer (some ⟨w.heap.size,0,none⟩))) (w.alloc (.cells rc el))/\eP M cs rc.toList) \/
 (bx=none/\∀h,Inv M h w-> ∃w' M' x r,tv= .v x/\(execOp ρ o).run E.P w= .ok (.value r) w'/\VR M' x r/\Inv M' h w'/\Pres w.heap.size M h w M' h w')
theorem d7A.val{x:IV}{r:Value}(h:(execOp ρ o).run E.P w= .ok (.value r) w)(g:VR M x r):d7A E M w o ρ pb (.v x) none:= .inl ⟨rfl,r,h,g⟩
theorem c9Y(b0: ∀b o u,M.im b o=some u->w.cell? ⟨b,o,none⟩=some u)(hev: ∀x tv,ev x=some tv->TR M pb tv (ρ x)){tv:TV}{bx:Option (Y14)}
  (h:eQ E f o ev=some (tv,bx)):d7A E M w o ρ pb tv bx:=by
 unfold eQ at h
 cases hop:o.op with
 |move x=>
  simp only [hop]at h;split at h
  .cases h
  obtain⟨a,h1,h2⟩:=AD.1 h;simp at h2;obtain⟨rfl,rfl⟩:=h2;exact .inl ⟨rfl,ρ x,by simp [execOp,hop],hev _ _ h1⟩
 |assign x=>
  simp only [hop]at h;obtain⟨a,h1,h2⟩:=AD.1 h;simp at h2;obtain⟨rfl,rfl⟩:=h2;exact .inl ⟨rfl,ρ x,by simp [execOp,hop],hev _ _ h1⟩
 |pick c a b=>
  simp only [hop]at h;split at h
  .rename_i V;obtain⟨q,h1,h2⟩:=AD.1 h;simp at h2;obtain⟨rfl,rfl⟩:=h2;have a1:VR M (.bool true) (ρ c):=hev _ _ V;generalize hρ:ρ c=rcv at a1
   cases a1
   exact .inl ⟨rfl,ρ a,by simp [execOp,hop,hρ,asBool],hev _ _ h1⟩
  .rename_i V;obtain⟨q,h1,h2⟩:=AD.1 h;simp at h2;obtain⟨rfl,rfl⟩:=h2;have a1:VR M (.bool false) (ρ c):=hev _ _ V;generalize hρ:ρ c=rcv at a1
   cases a1
   exact .inl ⟨rfl,ρ b,by simp [execOp,hop,hρ,asBool],hev _ _ h1⟩
  .simp at h
 |alloc t=>
  simp only [hop]at h;split at h
  case h_2=>simp at h
  rename_i d hd;split at h
  case isFalse=>simp at h
  obtain⟨z,h1,h2⟩:=AD.1 h;simp at h2;obtain⟨rfl,rfl⟩:=h2;obtain⟨i,r,h3,h4,h5,h6⟩:=fH (M:=M) h1;refine .inr (.inl ⟨_,d,r.cells,t,rfl,hd,rfl,?_,lR h5 h6⟩);simp only [execOp,hop];refine cB _ _ ?_;simp only [Instr.alloc,AT,cJ w h3 h4,AL,newVar,Go.newRow,run_newObj,AZ];rfl
 |box t x=>
  simp only [hop]at h;split at h
  case h_2=>simp at h
  rename_i d v hd hv;split at h
  case isFalse=>simp at h
  rename_i V;simp at h;obtain⟨rfl,rfl⟩:=h;refine .inr (.inl ⟨_,d,(ρ x).cells,t,rfl,hd,rfl,?_,lR (bG hev hv) V.2⟩);simp only [execOp,hop];refine cB _ _ ?_;simp only [Instr.box,newVar,Go.newRow,AT,run_newObj,AL,AZ];rfl
 |build t parts=>
  simp only [hop]at h;split at h
  case h_2=>simp at h
  rename_i z ps hz hp;have a4:PR M ps (parts.map λ(i,x)=>(i,ρ x)).toList:=by
   have:=F4 (M:=M) hev hp;simpa using this
  split at h
  .rename_i fs l;split at h
   case isFalse=>simp at h
   rename_i m;obtain⟨cs,h1,h2⟩:=AD.1 h;simp at h2;obtain⟨rfl,rfl⟩:=h2;obtain⟨r,h3,h4⟩:=Uq (P:=E.P) w hz a4 (.inl ⟨fs,l,m,h1⟩);exact .val (by simp only [execOp,hop];exact cB _ _ h3) h4
  .rename_i n e l;split at h
   case h_2=>simp at h
   rename_i sz hs;obtain⟨cs,h1,h2⟩:=AD.1 h;simp at h2;obtain⟨rfl,rfl⟩:=h2;obtain⟨r,h3,h4⟩:=Uq (P:=E.P) w hz a4 (.inr ⟨n,e,sz,l,hs,h1⟩);exact .val (by simp only [execOp,hop];exact cB _ _ h3) h4
  .simp at h
 |buildSlice t n parts=>
  simp only [hop]at h;split at h
  case h_2=>simp at h
  rename_i e d l hd;split at h
  case isFalse=>simp at h
  split at h
  case h_2=>simp at h
  rename_i sz z ps b6 hz hp;split at h
  case isFalse=>simp at h
  rename_i a0;obtain⟨cs,h1,h2⟩:=AD.1 h;simp at h2;obtain⟨rfl,rfl⟩:=h2;have a4:PR M ps (parts.map λ(i,x)=>(i,ρ x)).toList:=by
   have:=F4 (M:=M) hev hp;simpa using this
  obtain⟨ro,r1,r2,r3⟩:=vX (P:=E.P) (M:=M) w l b6 hz a0.1 a0.2 a4 h1;have b9:eP M (match E.nf f with|true=>rN (rep n (A6 E.P 8 e)) cs|false=>cs) ro.toList:=by
   split
   .exact Wt r2
   .exact r2
  have c0:(match E.nf f with|true=>rN (rep n (A6 E.P 8 e)) cs|false=>cs).length=n*(sz+1):=by
   split
   .rw [Wu];exact r3
   .exact r3
  refine .inr (.inr ⟨rfl,λh hI=>?_⟩);obtain⟨M',q1,q2,q3⟩:=c8W hI (NewBlk.alloc w (.cells ro e)) c0 JZ b9;exact⟨_,M',_,_,rfl,by simp only [execOp,hop];exact cB _ _ r1,q3,q1,q2⟩
 |load t a=>
  simp only [hop]at h;split at h
  case h_2=>simp at h
  rename_i cs K m;obtain⟨v,h1,h2⟩:=AD.1 h;simp at h2;obtain⟨rfl,rfl⟩:=h2;have j:VR M (.vref cs K) (ρ a):=hev _ _ m;generalize hρ:ρ a=ra at j
  cases j with
  | @vref _ _ b base rv him' hv V=>
   have b5:eP M cs ((List.range cs.length).map rv):=⟨⟨KB,λi p q=>by simpa using hv i p⟩,V⟩;obtain⟨r,h3,h4⟩:=H5 (P:=E.P) (w:=w) (b:=b) (base:=base) b5 (λi R=>by simp at R;simpa using b0 _ _ _ (him' i R)) h1;exact .val (by simp only [execOp,hop,hρ,Instr.loadAt,Instr.sureAddr];exact cB _ _ (by simpa using h3)) h4
 |nilCheck x=>
  simp only [hop]at h;split at h
  .rename_i s K T;simp at h;obtain⟨rfl,rfl⟩:=h;have:ρ x= .pointer (some ⟨pb s,K,none⟩):=hev _ _ T;exact .inl ⟨rfl,_,by simp [execOp,hop,this],rfl⟩
  .rename_i id K T;simp at h;obtain⟨rfl,rfl⟩:=h;have j:VR M (.ptr id K) (ρ x):=hev _ _ T;generalize hρ:ρ x=ra at j;have D:=j
   cases j
   exact .val (by simp [execOp,hop,hρ]) D
  .rename_i cs K T;simp at h;obtain⟨rfl,rfl⟩:=h;have j:VR M (.vref cs K) (ρ x):=hev _ _ T;generalize hρ:ρ x=ra at j;have D:=j
   cases j
   exact .val (by simp [execOp,hop,hρ]) D
  .rename_i g a b T;simp at h;obtain⟨rfl,rfl⟩:=h;have j:VR M (.func (.func g) a b) (ρ x):=hev _ _ T;generalize hρ:ρ x=ra at j;have D:=j
   cases j
   exact .val (by simp [execOp,hop,hρ]) D
  .rename_i t v T;simp at h;obtain⟨rfl,rfl⟩:=h;have j:VR M (.iface t v) (ρ x):=hev _ _ T;generalize hρ:ρ x=ra at j;have D:=j
   cases j
   exact .val (by simp [execOp,hop,hρ]) D
  .simp at h
 |binOp op t x y u=>
  simp only [hop]at h;split at h
  case h_2=>simp at h
  rename_i a b m Z;obtain⟨v,h1,h2⟩:=AD.1 h;simp at h2;obtain⟨rfl,rfl⟩:=h2;obtain⟨r,h3,h4⟩:=b4P (P:=E.P) w x y rfl (bG hev m) (bG hev Z) h1;exact .val (by simp only [execOp,hop];exact cB _ _ h3) h4
 |unOp op t x=>
  simp only [hop]at h;split at h
  case h_2=>simp at h
  rename_i a m;obtain⟨v,h1,h2⟩:=AD.1 h;simp at h2;obtain⟨rfl,rfl⟩:=h2;obtain⟨r,h3,h4⟩:=d1K (P:=E.P) w (bG hev m) h1;exact .val (by simp only [execOp,hop];exact cB _ _ h3) h4
 |convert s d x=>
  simp only [hop]at h;split at h
  case h_2=>simp at h
  rename_i a m;obtain⟨v,h1,h2⟩:=AD.1 h;simp at h2;obtain⟨rfl,rfl⟩:=h2;obtain⟨r,h3,h4⟩:=b0R (P:=E.P) w b0 (bG hev m) h1;exact .val (by simp only [execOp,hop];exact cB _ _ h3) h4
 |makeInterface t x=>
  simp only [hop]at h;split at h
  case h_2=>simp at h
  rename_i a R m;simp at h;obtain⟨rfl,rfl⟩:=h;obtain⟨d,l,hd⟩:=rK R;refine .val (r:= .iface t (ρ x)) ?_ (.iface (bG hev m));simp only [execOp,hop];refine cB _ _ ?_
  cases d<;>first| (exact absurd (hd.1 ⟨_,rfl⟩) KB)|simp [Instr.makeInterface,run_underlying l]
 |makeFunc fn a b=>
  simp only [hop]at h;split at h
  case h_2=>simp at h
  rename_i xs ys T hy;simp at h;obtain⟨rfl,rfl⟩:=h;refine .val (r:= .func fn (a.map ρ) (b.map ρ)) (by simp only [execOp,hop];exact cB _ _ (by simp [Instr.makeFunc])) ?_;have h1:=oY hev T;have h2:=oY hev hy;have:=Gg (fn:=fn) h1 h2;have e: ∀a:Array Operand,(a.toList.map ρ).toArray=a.map ρ:=λa=>by apply EL;simp
  rwa [e,e]at this
 |slice t x lo R mx=>
  simp only [hop]at h;split at h
  case h_2=>simp at h
  rename_i a m;obtain⟨v,h1,h2⟩:=AD.1 h;simp at h2;obtain⟨rfl,rfl⟩:=h2;obtain⟨r,h3,h4⟩:=a4M (P:=E.P) w (bG hev m) (F3 hev lo) (F3 hev R) h1;exact .val (by simp only [execOp,hop];exact cB _ _ h3) h4
 |fieldAddr t x i=>
  simp only [hop]at h;split at h
  case h_2=>simp at h
  rename_i ft K a hf m;split at h
  case h_2=>simp at h
  rename_i n hn;obtain⟨v,h1,h2⟩:=AD.1 h;simp at h2;obtain⟨rfl,rfl⟩:=h2;obtain⟨fs,fx,l,a7,rfl,rfl⟩:=F5 hf;obtain⟨ii,L,O⟩:=dT hn;obtain⟨ad,he,ht⟩:=Z4 h1 (hev _ _ m);refine .inl ⟨rfl,_,?_,ht⟩;simp only [execOp,hop];refine cB _ _ ?_;simp [Instr.fieldAt,run_underlying l,a7,he,Instr.sureAddr,fieldPlace,cG L,O]
 |field t x i=>
  simp only [hop]at h;split at h
  case h_2=>simp at h
  rename_i ft K cs hf m;obtain⟨v,h1,h2⟩:=AD.1 h;simp at h2;obtain⟨rfl,rfl⟩:=h2;obtain⟨fs,fx,l,a7,rfl,rfl⟩:=F5 hf;obtain⟨rc,hr,V⟩:=wT (bG hev m);obtain⟨r,h3,h4⟩:=Bu (P:=E.P) (w:=w) V h1;refine .val ?_ h4;simp only [execOp,hop];refine cB _ _ ?_;simp [Instr.field,run_underlying l,a7,hr,asAgg,h3]
 |indexAddr t x ix=>
  simp only [hop]at h;split at h
  .rename_i i n e R l;obtain⟨k,hk⟩:=tZ R;have G:VR M (.int k i) (ρ ix):=hev _ _ hk;generalize hρi:ρ ix=ri at G
   cases G
   split at h
   case h_2=>simp at h
   rename_i sz a hs m;split at h
   case isFalse=>simp at h
   rename_i Z;obtain⟨v,h1,h2⟩:=AD.1 h;simp at h2;obtain⟨rfl,rfl⟩:=h2;obtain⟨ii,L,O⟩:=dT hs;obtain⟨ad,he,ht⟩:=Z4 h1 (hev _ _ m);refine .inl ⟨rfl,_,?_,ht⟩;simp only [execOp,hop];refine cB _ _ ?_;simp [Instr.indexAt,run_underlying l,hρi,asIntOf,he,Instr.sureAddr,Z,cG L,O]
  .rename_i i e R l;obtain⟨k,hk⟩:=tZ R;have G:VR M (.int k i) (ρ ix):=hev _ _ hk;generalize hρi:ρ ix=ri at G
   cases G
   split at h
   .rename_i sz b8 e' len z cs hs m;split at h
    case isFalse=>simp at h
    rename_i Z;obtain⟨b1,b2,rfl⟩:=Z;simp at h;obtain⟨rfl,rfl⟩:=h;obtain⟨ii,L,O⟩:=dT hs;have j:=bG hev m;generalize hρ:ρ x=ra at j
    cases j with
    |vnil=>omega
    | @vslice _ _ _ _ cap _ a rv hn hlen ha' him' hv V ht hf=>
     have b3:=ha'.resolve_left JZ;obtain⟨ab,ao,c3⟩:=a;obtain⟨a6,c2⟩:=b3;simp only at a6;subst a6;refine .inl ⟨rfl,.pointer (some ⟨ab,ao+i.toNat*z,none⟩),?_,VR.vref rv him' hv V⟩;simp only [execOp,hop];refine cB _ _ ?_;simp [Instr.indexAt,run_underlying l,hρi,hρ,asIntOf,b1,b2,cG L,O,dB]
   .rename_i sz b8 K len z hs m;split at h
    case isFalse=>simp at h
    rename_i Z;obtain⟨b1,b2,rfl⟩:=Z;simp at h;obtain⟨rfl,rfl⟩:=h;obtain⟨ii,L,O⟩:=dT hs;have j:=bG hev m;generalize hρ:ρ x=ra at j
    cases j with
    | @hslice _ _ _ _ cap b a hl ha' hlen=>
     obtain⟨rfl,b3⟩:=ha'.resolve_left JZ;refine .inl ⟨rfl,.pointer (some ⟨b,K+i.toNat*z,none⟩),?_,VR.ptr hl⟩;simp only [execOp,hop];refine cB _ _ ?_;simp [Instr.indexAt,run_underlying l,hρi,hρ,asIntOf,b1,b2,cG L,O,dB]
   .simp at h
  .simp at h
 |index t x ix=>
  simp only [hop]at h;split at h
  .rename_i i n e cs R l m;obtain⟨k,hk⟩:=tZ R;have G:VR M (.int k i) (ρ ix):=hev _ _ hk;generalize hρi:ρ ix=ri at G
   cases G
   split at h
   case h_2=>simp at h
   rename_i sz hs;split at h
   case isFalse=>simp at h
   rename_i Z;obtain⟨v,h1,h2⟩:=AD.1 h;simp at h2;obtain⟨rfl,rfl⟩:=h2;obtain⟨ii,L,O⟩:=dT hs;obtain⟨rc,hr,V⟩:=wT (bG hev m);obtain⟨r,h3,h4⟩:=Bu (P:=E.P) (w:=w) V h1;refine .val ?_ h4;simp only [execOp,hop];refine cB _ _ ?_;simp [Instr.index,run_underlying l,hρi,hr,asIntOf,Z,cG L,O,h3]
  .rename_i i s R l m;obtain⟨k,hk⟩:=tZ R;have G:VR M (.int k i) (ρ ix):=hev _ _ hk;generalize hρi:ρ ix=ri at G
   cases G
   split at h
   case isFalse=>simp at h
   rename_i Z;obtain⟨v,h1,h2⟩:=AD.1 h;simp at h2;obtain⟨rfl,rfl⟩:=h2;have j:=bG hev m;generalize hρ:ρ x=ra at j
   cases j with
   |str b=>
    refine .val (r:= .int .u8 v.toNat) ?_ (.int _ _);simp only [execOp,hop];refine cB _ _ ?_;have b4:b[i.toNat]?=some v:=by
     have:i.toNat<b.size:=by
      have:=BT.1 h1;simpa using this.1
     rw [getElem?_pos b i.toNat this];have h2:=h1;rw [AB (by simpa using this)]at h2;simpa [ByteArray.getElem_eq_getElem_data]using h2
    simp [Instr.index,run_underlying l,hρi,hρ,asIntOf,Z,b4]
  .simp at h
 |extract x i=>
  simp only [hop]at h;split at h
  case h_2=>simp at h
  rename_i vs m;obtain⟨v,h1,h2⟩:=AD.1 h;simp at h2;obtain⟨rfl,rfl⟩:=h2;obtain⟨rc,hr,V⟩:=Ym (bG hev m);obtain⟨r,h3,h4⟩:=V.get h1;refine .val ?_ h4;simp only [execOp,hop];refine cB _ _ ?_;simp [Instr.extract,hr,h3]
 |typeAssert x s t ok=>
  simp only [hop]at h;split at h
  .rename_i u v R m;obtain⟨d,l,hd⟩:=rK R;have j:=bG hev m;generalize hρ:ρ x=ra at j
   cases j with
   | @iface _ _ rv hv=>
    have a2: ∀ms,d≠ .interface ms:=λms e=>absurd (hd.1 ⟨ms,e⟩) KB
    split at h
    .rename_i a9;subst a9;split at h
     .rename_i X;simp at h;obtain⟨rfl,rfl⟩:=h;refine .val (r:= .tuple #[rv,.bool true]) ?_ (by simpa using eH (cU.cons hv (cU.cons (.bool true) (cU.nil M))));simp only [execOp,hop];refine cB _ _ ?_
      cases d<;>first| (exact absurd rfl (a2 _))|simp [Instr.typeAssert,run_underlying l,hρ,X]
     .rename_i X;simp at h;obtain⟨rfl,rfl⟩:=h;refine .val (r:=rv) ?_ hv;simp only [execOp,hop];refine cB _ _ ?_
      cases d<;>first| (exact absurd rfl (a2 _))|simp [Instr.typeAssert,run_underlying l,hρ,X]
    .rename_i a9;split at h
     case isFalse=>simp at h
     rename_i X;obtain⟨z,h1,h2⟩:=AD.1 h;simp at h2;obtain⟨rfl,rfl⟩:=h2;obtain⟨i,r,h3,h4,h5,h6⟩:=fH (M:=M) h1;refine .val (r:= .tuple #[r,.bool false]) ?_ (by simpa using eH (cU.cons h5 (cU.cons (.bool false) (cU.nil M))));simp only [execOp,hop];refine cB _ _ ?_
     cases d<;>first| (exact absurd rfl (a2 _))|simp [Instr.typeAssert,run_underlying l,hρ,X,a9,cJ w h3 h4]
  .rename_i R m;obtain⟨d,l,hd⟩:=rK R;have a2: ∀ms,d≠ .interface ms:=λms e=>absurd (hd.1 ⟨ms,e⟩) KB
   have j:=bG hev m;generalize hρ:ρ x=ra at j
   cases j
   split at h
   case isFalse=>simp at h
   rename_i X;obtain⟨z,h1,h2⟩:=AD.1 h;simp at h2;obtain⟨rfl,rfl⟩:=h2;obtain⟨i,r,h3,h4,h5,h6⟩:=fH (M:=M) h1;refine .val (r:= .tuple #[r,.bool false]) ?_ (by simpa using eH (cU.cons h5 (cU.cons (.bool false) (cU.nil M))));simp only [execOp,hop];refine cB _ _ ?_
   cases d<;>first| (exact absurd rfl (a2 _))|simp [Instr.typeAssert,run_underlying l,hρ,X,cJ w h3 h4]
  .simp at h
 |call c=>
  obtain⟨a3,a5,Y⟩:=c;simp only [hop]at h
  cases a3 with
  |value x=>simp at h
  |invoke x n=>simp at h
  |builtin b=>
   cases b
   case len=>
    simp only at h;split at h
    case h_2=>simp at h
    rename_i t x ht T;obtain⟨y,hy,b7⟩:=CJ.1 T;have j:=bG hev b7;have h0:(a5.map ρ)[0]?=some (ρ y):=by simp [hy]
    have A: ∀r,(Builtin.len_ Y o.type (a5.map ρ)).run E.P w= .ok r w->(execOp ρ o).run E.P w= .ok (.value r) w:=by
     intro r hr;simp only [execOp,hop,resolve,invoke,AT,AZ,AL,builtin,hr]
    generalize hρ:ρ y=ra at j h0;split at h
    .rename_i s l;simp at h;obtain⟨rfl,rfl⟩:=h
     cases j
     refine .val (A _ (by simp [Builtin.len_,ht,hy,hρ,run_underlying l];rfl)) ?_;simpa [goInt]using VR.int (M:=M) _ _
    .rename_i e l;simp at h;obtain⟨rfl,rfl⟩:=h
     cases j
     exact .val (A _ (by simp [Builtin.len_,ht,hy,hρ,run_underlying l];rfl)) (.int _ _)
    .rename_i e i1 i2 len i3 l;simp at h;obtain⟨rfl,rfl⟩:=h;obtain⟨a,cap,rfl,_⟩:=uI j;exact .val (A _ (by simp [Builtin.len_,ht,hy,hρ,run_underlying l];rfl)) (.int _ _)
    .rename_i e i1 i2 len i3 i4 l;simp at h;obtain⟨rfl,rfl⟩:=h;obtain⟨a,cap,rfl,_⟩:=vA j;exact .val (A _ (by simp [Builtin.len_,ht,hy,hρ,run_underlying l];rfl)) (.int _ _)
    .rename_i k e l;simp at h;obtain⟨rfl,rfl⟩:=h
     cases j
     exact .val (A _ (by simp [Builtin.len_,ht,hy,hρ,run_underlying l];rfl)) (.int _ _)
    .rename_i n e l;simp at h;obtain⟨rfl,rfl⟩:=h;exact .val (A _ (by simp [Builtin.len_,ht,hy,run_underlying l];rfl)) (.int _ _)
    .simp at h
   case min=>
    simp only at h;split at h
    case h_2=>simp at h
    rename_i x r T;obtain⟨v,h1,h2⟩:=AD.1 h;simp at h2;obtain⟨rfl,rfl⟩:=h2;obtain⟨q,c1,a8,v1,v2⟩:=(oY hev T).uncons;obtain⟨s,h3,h4⟩:=Ve (P:=E.P) w v1 v2 h1;refine .val (r:=s) ?_ h4;simp only [execOp,hop,resolve,invoke,AT,AZ,AL,builtin,Builtin.min_,IG,a8,h3]
   case max=>
    simp only at h;split at h
    case h_2=>simp at h
    rename_i x r T;obtain⟨v,h1,h2⟩:=AD.1 h;simp at h2;obtain⟨rfl,rfl⟩:=h2;obtain⟨q,c1,a8,v1,v2⟩:=(oY hev T).uncons;obtain⟨s,h3,h4⟩:=Vd (P:=E.P) w v1 v2 h1;refine .val (r:=s) ?_ h4;simp only [execOp,hop,resolve,invoke,AT,AZ,AL,builtin,Builtin.max_,IG,a8,h3]
   all_goals simp at h
 |_=>simp [hop]at h
end
section
variable {P:Program} {M:Meta} {h:Heap} {w:World}
theorem Um{t l ty e:TypeId}{i:TypeInfo}(u:P.underlying t=some (.slice e))(m:P.info? e=some i){base:Option Addr}{len cap:Nat}{r:Value}(j:Src P i.size l r 0 [] w)(g:len<=cap):
  (Builtin.append_ #[t,l] ty #[.slice base len cap,r]).run P w= .ok (.slice base len cap) w:=by
 rcases j.kind with⟨e',hk⟩|hk<;>cases base<;>simp [Builtin.append_,run_underlying u,run_underlying hk,sizeOf,typeInfo,m,j.len,g,j.cells,storeCells]
theorem c3Z(l:List Value)(o:Nat)(c:List Value)(k:Nat)(hk:k=o+c.length)(ho:o<=l.length):(rT l o c).take k=l.take o++c:=by
 subst hk;unfold rT
 rw [CQ (by simp;omega)];rw [AJ (by simp;omega)]
theorem b0N(a:Inv M h w){c0 sz bytes:Nat}{t tx ty e:TypeId}{i:TypeInfo}{z:Value}{du:TypeDesc}{s x v:IV}{rs rx:Value}(ht:P.underlying t=some (.slice e))(hi:P.info? e=some i)(G:i.size=sz+1)(b2:i.bytes=bytes+1)
  (hz:i.zero=some z) (hzl:z.cells.size=sz+1) (hu:P.underlying tx=some du) (hk:oS du=true) (hs:VR M s rs) (hx:VR M x rx) (happ:nL h c0 (sz+1) (bytes+1) s x=some (v,g)):
  ∃r w' M',(Builtin.append_ #[t,tx] ty #[rs,rx]).run P w= .ok r w'/\VR M' v r/\Inv M' g w'/\Pres w.heap.size M h w M' g w':=by
 unfold nL at happ
 cases hsrc:gO h (sz+1) x with
 |none=>simp [hsrc]at happ
 |some q=>
  obtain⟨n,xs⟩:=q;simp only [hsrc]at happ;obtain⟨l,hc,hS⟩:=a9G (P:=P) a hu hk hx hsrc;have b8:xs.length=n*(sz+1):=(Sy (P:=P) a hx hsrc).1;have A:l.length=n*(sz+1):=by rw [<-hc.len,b8]
  rw [<-G]at hS;have Y: ∀m,(Builtin.zeroCells z.cells m).size=m*(sz+1):=λm=>by rw [size_zeroCells,hzl]
  split at happ
  ·
   rename_i c4;subst c4;have b7:l=[]:=by simpa using A
   subst b7;have fin:v=s->g=h-> ∀base len cap,rs= .slice base len cap->len<=cap-> ∃r w' M',(Builtin.append_ #[t,tx] ty #[rs,rx]).run P w= .ok r w'/\VR M' v r/\Inv M' g w'/\Pres w.heap.size M h w M' g w':=by
    intro e1 e2 base len cap e3 a9;subst e1;subst e2;subst e3;exact⟨_,w,M,Um ht hi hS a9,hs,a,Pres.refl _ _ _ _⟩
   split at happ
   .simp at happ
    cases hs
    exact fin happ.1.symm happ.2.symm _ _ _ rfl (AF _)
   .split at happ
    case isFalse=>simp at happ
    simp at happ;obtain⟨ad,cap,e3,a9,_⟩:=vA hs;exact fin happ.1.symm happ.2.symm _ _ _ e3 a9
   .split at happ
    case isFalse=>simp at happ
    simp at happ;obtain⟨ad,cap,e3,a9⟩:=uI hs;exact fin happ.1.symm happ.2.symm _ _ _ e3 a9
   .simp at happ
  .rename_i c4;have hn:0<n:=JZ;split at happ
   ·
    split at happ
    case isFalse=>simp at happ
    rename_i hb;simp only [AC]at happ
    cases hs
    have L:Builtin.nextslicecap (0+n) 0*i.bytes<=281474976710656:=growslice_fits JZ (by rw [b2];simpa using hb);have a3:((0+n:Nat):Int)<=9223372036854775807:=by
     have:n*1<=n*(bytes+1):=EX _ JZ;omega
    have u:=run_append_grow_src (P:=P) w t tx ty e i z ht hi hz none 0 0 [] (run_firstCells_none w.drew i.size 0 0 0) rx n l hS JZ a3 L;simp only [DG,AY]at u;have R:=grownCap_ge w n 0 e;have c2:grownCap w n 0 e*(sz+1)<=(l.toArray++Builtin.zeroCells z.cells (grownCap w n 0 e-n)).size:=by
     simp only [FH,DZ,A,Y];rw [<-Nat.add_mul];exact CE _ JZ
    obtain⟨M',r1,r2,r3⟩:=sI a c0 (fz:=(0,0)) (vY w _) (.inl (AF _)) b8 R c2 (by
     rw [b8,<-A];simpa using hc)
    rw [happ]at r1 r2 r3;exact⟨_,_,M',u,r3,r1,r2⟩
   ·
    rename_i len z' cs;split at happ
    case isFalse=>simp at happ
    rename_i K;obtain⟨rfl,hb⟩:=K;simp only [AC]at happ;have b3:(len+n)*(sz+1)=len*(sz+1)+n*(sz+1):=Nat.add_mul _ _ _
    cases hs with
    | @vslice _ _ _ _ cap _ ad rv a0 hlen had him hv hcc htp hfl=>
     have b5:cap=len:=by
      rcases hfl rfl with h0| ⟨_,h0,_⟩
      .simp at h0
      .exact h0
     subst b5;have L:Builtin.nextslicecap (cap+n) cap*i.bytes<=281474976710656:=growslice_fits JZ (by rw [b2];exact hb);have a3:((cap+n:Nat):Int)<=9223372036854775807:=by
      have:(cap+n)*1<=(cap+n)*(bytes+1):=EX _ JZ;omega
     have b6:eP M cs ((List.range cs.length).map rv):=⟨⟨KB,λi p q=>by simpa using hv i p⟩,hcc⟩;have T:((List.range cs.length).map rv).length=cap*i.size:=by rw [G];simp;omega
     have a1: ∀j v,((List.range cs.length).map rv)[j]?=some v->w.drew.cell? (ad.add j)=some v:=by
      intro j v D;obtain⟨h1,h2⟩:=BT.1 D;simp at h1 h2;have b1:cap≠0:=by
       intro e;subst e;simp at a0;rw [a0]at h1;simp at h1
      obtain⟨a2,_⟩:=had.resolve_left b1;obtain⟨ab,ao,c1⟩:=ad;simp only at a2;subst a2;rw [dB,<-h2];exact a.im _ _ _ (him j h1)
     have u:=run_append_grow_src (P:=P) w t tx ty e i z ht hi hz (some ad) cap cap _ (run_firstCells_some w.drew i.size cap ad cap cap _ T a1) rx n l hS JZ a3 L;have R:=grownCap_ge w (cap+n) cap e;have a4:((((List.range cs.length).map rv)++l).toArray++Builtin.zeroCells z.cells (grownCap w (cap+n) cap e- (cap+n))).size=grownCap w (cap+n) cap e*(sz+1):=by
      have h2:(cap+n)*(sz+1)+(grownCap w (cap+n) cap e- (cap+n))*(sz+1)=grownCap w (cap+n) cap e*(sz+1):=by
       rw [<-Nat.add_mul];congr 1;omega
      simp only [FH,DZ,AI,T,G,A,Y];omega
     have O:=b6.append hc;obtain⟨M',r1,r2,r3⟩:=sI a c0 (fz:=(0,0)) (cs:=cs++xs) (len:=cap+n) (sz:=sz+1) (vY w _) (.inl (AF _)) (by simp;omega) R (by rw [a4];exact AF _) (by
      have e1:(cs++xs).length=(((List.range cs.length).map rv)++l).length:=O.len;rw [HM,CQ (by simpa using HD e1),AJ (by simpa using HD e1.symm)];exact O)
     rw [happ]at r1 r2 r3;exact⟨_,_,M',u,r3,r1,r2⟩
   ·
    rename_i id e' len z' cs;split at happ
    case h_2=>simp at happ
    rename_i m hg;split at happ
    case isFalse=>simp at happ
    rename_i K;obtain⟨rfl,rfl,hb⟩:=K;simp only [AC,BX]at happ;obtain⟨rfl,rfl⟩:=happ;obtain⟨t0,b,d0,rc,t1,t2,t3,t4⟩:=a.tips id m hg
    cases hs with
    | @vslice _ _ _ _ cap _ ad rv a0 hlen had him hv hcc htp hfl=>
     obtain⟨p1,p0,p2,p3⟩:=htp id rfl;have b3:(len+n)*(sz+1)=len*(sz+1)+n*(sz+1):=Nat.add_mul _ _ _;have c3:0<n*(sz+1):=JX hn JZ
     by_cases hroom:len+n<=cap
     .obtain⟨a2,n0,Z,b4⟩:=had.resolve_left JZ;have a5:=(p3 t0.symm).resolve_left JZ;obtain⟨ab,ao,c1⟩:=ad;simp only at a2 Z b4 a5 him;subst a2;rw [t1]at a5;simp at a5;obtain⟨rfl,rfl⟩:=a5;rw [t2.bsz]at Z;simp at Z;subst Z;have c7:(len+n)*(sz+1)<=cap*(sz+1):=CE _ hroom;obtain⟨el,fz,a6⟩:=t2.at_;have u:=run_append_room_src (P:=P) w t tx ty e i ht hi b ao len cap rx n l hS hroom
       (by
        intro j D;rw [A]at D;rw [G];simp [World.cell?,a6,show ao+len*(sz+1)+j<rc.size by omega])
       (by
        intro j D;rw [A]at D;rw [G];exact t2.free _ JZ)
      rw [G]at u;obtain⟨b9,s1,s2⟩:=jV b l (ao+len*(sz+1)) w rc el fz a6 (by rw [A];omega);have V:b9.size=rc.size:=by
       have:=congrArg List.length s2;rw [rC _ _ _ (by rw [A];simp;omega)]at this;simpa using this
      have a7: ∀j,(w.setCells b (ao+len*(sz+1)) l).frozen? ⟨b,j,none⟩=w.frozen? ⟨b,j,none⟩:=λj=>World.frozen?_setCells b _ _ _ _
      obtain⟨M',q1,q2,q3,q4,q5,q6,q7⟩:=c4B a (k:=n*(sz+1)) hg t1 t2 ⟨el,fz,s1⟩ (λj D=>by rw [a7];exact t2.free j JZ) V (by rw [a0];omega)
       (λj D=>by
        rw [<-Array.getElem?_toList,<-Array.getElem?_toList,s2];unfold rT
        rw [BM (by simp;omega),BM (by simp;omega),DI,if_pos JZ]) c3
       (λk hk=>fQ b _ _ _ k hk) (iD b _ _ _) (iC b _ _ _)
      refine⟨_,_,M',u,?_,q1,q2⟩;have hE:=q2.ext;refine .vslice ⟨b,ao,none⟩ (λj=>if j<cs.length then rv j else l.getD (j-cs.length) undef) (by simp;omega) hroom (.inr ⟨rfl,rc.size,by rw [q6];exact t2.bsz,b4⟩) ?_ ?_ ?_ ?_ KB
      .intro j D;simp only [AI]at D
       by_cases y:j<cs.length
       .simp only [y,if_true];exact hE.im _ _ _ (him j y)
       .simp only [y,if_false];have hq:=q7 (j-cs.length) JZ;rw [show ao+cs.length+(j-cs.length)=ao+j by omega]at hq;rw [hq,<-Array.getElem?_toList,s2];unfold rT
        rw [BM (by simp;omega),BC (by simp;omega)];simp only [AW,EV];rw [show ao+j-min (ao+len*(sz+1)) rc.size=j-cs.length by omega];rw [AB JZ];simp [show j-cs.length<l.length by omega]
      .intro j D;simp only [AI]at D
       by_cases y:j<cs.length
       .rw [IH y];simp only [y,if_true];exact(hv j y).mono hE
       .rw [IA JZ];simp only [y,if_false];have:=(hc.1.2 (j-cs.length) JZ JZ).mono hE;simpa [show j-cs.length<l.length by omega]using this
      .intro j D;rw [JM];split
       .exact hcc _ _
       .exact hc.2 _ _
      .intro k ek;simp at ek;subst ek;refine⟨by rw [q5];exact p1,by simp;omega,by rw [q3];exact AF _,λ_=> .inr ?_⟩;rw [q4];simp;omega
     ·
      have L:Builtin.nextslicecap (len+n) cap*i.bytes<=281474976710656:=growslice_fits JZ (by rw [b2];exact hb);have a3:((len+n:Nat):Int)<=9223372036854775807:=by
       have:(len+n)*1<=(len+n)*(bytes+1):=EX _ JZ;omega
      have b6:eP M cs ((List.range cs.length).map rv):=⟨⟨KB,λi p q=>by simpa using hv i p⟩,hcc⟩;have T:((List.range cs.length).map rv).length=len*i.size:=by rw [G];simp;omega
      have a1: ∀j v,((List.range cs.length).map rv)[j]?=some v->w.drew.cell? (ad.add j)=some v:=by
       intro j v D;obtain⟨h1,h2⟩:=BT.1 D;simp at h1 h2;have b1:cap≠0:=by
        intro e;have:len=0:=JZ;subst this;simp at a0;rw [a0]at h1;simp at h1
       obtain⟨a2,_⟩:=had.resolve_left b1;obtain⟨ab,ao,c1⟩:=ad;simp only at a2;subst a2;rw [dB,<-h2];exact a.im _ _ _ (him j h1)
      have u:=run_append_grow_src (P:=P) w t tx ty e i z ht hi hz (some ad) len cap _ (run_firstCells_some w.drew i.size len ad len cap _ T a1) rx n l hS JZ a3 L;have R:=grownCap_ge w (len+n) cap e;have a4:((((List.range cs.length).map rv)++l).toArray++Builtin.zeroCells z.cells (grownCap w (len+n) cap e- (len+n))).size=grownCap w (len+n) cap e*(sz+1):=by
       have h2:(len+n)*(sz+1)+(grownCap w (len+n) cap e- (len+n))*(sz+1)=grownCap w (len+n) cap e*(sz+1):=by
        rw [<-Nat.add_mul];congr 1;omega
       simp only [FH,DZ,AI,T,G,A,Y];omega
      have a8:(len+n)*(sz+1)<=grownCap w (len+n) cap e*(sz+1):=CE _ R;obtain⟨M',q1,q2,q3,q4,q5,q6,q7⟩:=d1G a (fz:=(0,0)) (k:=n*(sz+1)) (n:=(len+n)*(sz+1)) hg (vY w _) (.inl (AF _)) (by rw [a4];exact a8) c3;refine⟨_,_,M',u,?_,q1,q2⟩;have hE:=q2.ext;have O:=(b6.append hc).mono hE;refine .vslice ⟨w.heap.size,0,none⟩ (λj=>(((List.range cs.length).map rv)++l).getD j undef) (by simp;omega) R (.inr ⟨rfl,_,q6,by rw [a4];simp⟩) ?_ ?_ O.2 ?_ KB
      .intro j D;have c8:=D;simp only [AI]at c8;have y:j< (((List.range cs.length).map rv)++l).length:=by rw [<-O.len];exact D
       simp only [AY];rw [q7 j JZ,HV (by simpa using y)];rw [ED,AB y];simp only [AH];rw [AB y];rfl
      .intro j D;have y:j< (((List.range cs.length).map rv)++l).length:=by rw [<-O.len];exact D
       have:=O.1.2 j D y;simp only [AH];rw [AB y];exact this
      .intro k ek;simp at ek;subst ek;refine⟨by rw [q5];exact p1,by simp;omega,by rw [q3];exact AF _,λ_=> .inr ?_⟩;rw [q4];simp;omega
   ·
    rename_i id c9 len z';split at happ
    case h_2=>simp at happ
    rename_i cs hg;split at happ
    case isFalse=>simp at happ
    rename_i K;obtain⟨rfl,rfl,a0,hb⟩:=K;simp only [AC,BX]at happ;obtain⟨rfl,rfl⟩:=happ;obtain⟨b',rc,l1,l2,l3,l4,l5⟩:=a.row hg;have b3:(len+n)*(sz+1)=len*(sz+1)+n*(sz+1):=Nat.add_mul _ _ _;have b0:(cs.take (len*(sz+1))++xs).length=(len+n)*(sz+1):=by simp;omega
    have c5:eP M (cs.take (len*(sz+1))) (rc.toList.take (len*(sz+1))):=by
     have:=l4.take (len*(sz+1))
     rwa [HO,FZ a0]at this
    cases hs with
    | @hslice _ _ _ _ cap b ad hl had hlen=>
     rw [hl]at l1;simp at l1;subst l1
     by_cases hroom:len+n<=cap
     .obtain⟨rfl,n0,Z,b4⟩:=had.resolve_left JZ;rw [l2.bsz]at Z;simp at Z;subst Z;have c7:(len+n)*(sz+1)<=cap*(sz+1):=CE _ hroom;obtain⟨el,fz,a6⟩:=l2.at_;have u:=run_append_room_src (P:=P) w t tx ty e i ht hi b 0 len cap rx n l hS hroom
       (by
        intro j D;rw [A]at D;rw [G];simp [World.cell?,a6,show len*(sz+1)+j<rc.size by omega])
       (by
        intro j D;rw [A]at D;rw [G];exact l2.free _ JZ)
      rw [G]at u;obtain⟨b9,s1,s2⟩:=jV b l (0+len*(sz+1)) w rc el fz a6 (by rw [A];omega);have V:b9.size=rc.size:=by
       have:=congrArg List.length s2;rw [rC _ _ _ (by rw [A];simp;omega)]at this;simpa using this
      have a7: ∀j,(w.setCells b (0+len*(sz+1)) l).frozen? ⟨b,j,none⟩=w.frozen? ⟨b,j,none⟩:=λj=>World.frozen?_setCells b _ _ _ _
      obtain⟨M',q1,q2,q3,q4⟩:=a1N a (cs':=cs.take (len*(sz+1))++xs) hg hl (λk hk=>fQ b _ _ _ k hk) (iD b _ _ _) (iC b _ _ _)
       ⟨⟨el,fz,s1⟩,λj D=>by rw [a7];exact l2.free j JZ,by rw [V];exact l2.bsz⟩ JZ (by
        rw [s2,b0,c3Z _ _ _ _ (by rw [A];omega) (by simp;omega)];rw [AY];exact c5.append hc)
      exact⟨_,_,M',u,.hslice _ q3 (.inr ⟨rfl,_,q4,by rw [V];omega⟩) hroom,q1,q2⟩
     .have L:Builtin.nextslicecap (len+n) cap*i.bytes<=281474976710656:=growslice_fits JZ (by rw [b2];exact hb);have a3:((len+n:Nat):Int)<=9223372036854775807:=by
       have:(len+n)*1<=(len+n)*(bytes+1):=EX _ JZ;omega
      have T:(rc.toList.take (len*(sz+1))).length=len*i.size:=by rw [G];simp;omega
      have a1: ∀j v,(rc.toList.take (len*(sz+1)))[j]?=some v->w.drew.cell? (ad.add j)=some v:=by
       intro j v D;obtain⟨h1,h2⟩:=BT.1 D;have b1:cap≠0:=by
        intro e;have:len=0:=JZ;subst this;rw [T]at h1;simp at h1
       obtain⟨rfl,_⟩:=had.resolve_left b1;rw [dB];have c6:j< (rc.toList.take cs.length).length:=by simp at h1⊢;omega
       have:=l5 j c6;rw [<-h2];simpa using this
      have u:=run_append_grow_src (P:=P) w t tx ty e i z ht hi hz (some ad) len cap _ (run_firstCells_some w.drew i.size len ad len cap _ T a1) rx n l hS JZ a3 L;have R:=grownCap_ge w (len+n) cap e;have a4:(((rc.toList.take (len*(sz+1)))++l).toArray++Builtin.zeroCells z.cells (grownCap w (len+n) cap e- (len+n))).size=grownCap w (len+n) cap e*(sz+1):=by
       have h2:(len+n)*(sz+1)+(grownCap w (len+n) cap e- (len+n))*(sz+1)=grownCap w (len+n) cap e*(sz+1):=by
        rw [<-Nat.add_mul];congr 1;omega
       simp only [FH,DZ,AI,T,G,A,Y];omega
      have a8:(len+n)*(sz+1)<=grownCap w (len+n) cap e*(sz+1):=CE _ R;have O:=c5.append hc;obtain⟨M',q1,q2,q3,q4⟩:=b0P a (fz:=(0,0)) (cs':=cs.take (len*(sz+1))++xs) hg (vY w _) (.inl (AF _)) (by rw [a4,b0];exact a8) (by
       have e1:(cs.take (len*(sz+1))++xs).length=((rc.toList.take (len*(sz+1)))++l).length:=O.len;have e3: ∀X:List Value,X.toArray.toList.take X.length=X:=λX=>KB
       rw [HM,CQ (HD e1),e1,e3];exact O)
      exact⟨_,_,M',u,.hslice _ q3 (.inr ⟨rfl,_,q4,by rw [a4];simp⟩) R,q1,q2⟩
   .simp at happ
end
section
variable {M:Meta} {h:Heap} {w:World}
theorem Gd{d:TypeDesc}{k v:IV}{g rv:Value}(hk:VR M k g)(G:VR M v rv): ∀{l es':List (IV×IV)}{ents:List MapEntry}(i:Nat),A2 M l ents->sO d k v l=some es'->
  (∃j e u,ents[j]?=some e/\Instr.findNow d g ents i=some (some (i+j,u))/\e.key=g/\(∀n,Instr.sameBits n e.key g=true)/\A2 M es' (ents.modify j λe=> {e with key:=g,val:=rv })) \/
  (Instr.findNow d g ents i=some none/\es'=l++ [(k,v)])
 | [],es',ents,i,hm,h=>by
  have:ents=[]:=by have:=hm.len;simpa using this.symm
  subst this;simp [sO]at h;subst h;exact .inr ⟨rfl,rfl⟩
 | (x,y)::l,es',ents,i,hm,h=>by
  obtain⟨e,q,rfl,A,Z,h2⟩:=hm.uncons;unfold sO at h;split at h
  .rename_i z;simp at h;subst h;obtain⟨m,V⟩:=mX z hk A;obtain⟨_,X,Y⟩:=V rfl;refine .inl ⟨0,e,e.val,rfl,by simp [Instr.findNow,m],X.symm,Y,?_⟩;exact A2.cons hk G h2
  .rename_i z;obtain⟨m,_⟩:=mX z hk A;obtain⟨r,r1,T⟩:=AD.1 h;subst T;rcases Gd hk G (i+1) h2 r1 with⟨j,e',u,D,K,L,O,R⟩| ⟨D,rfl⟩
   .refine .inl ⟨j+1,e',u,by simpa using D,?_,L,O,A2.cons A Z R⟩;simp [Instr.findNow,m,K];omega
   .refine .inr ⟨?_,rfl⟩;simp [Instr.findNow,m,D]
  .simp at h
theorem a9J{d:TypeDesc}{k v:IV}{l rv:Value}(hk:VR M k l)(D:VR M v rv): ∀{g es':List (IV×IV)}{ents:List MapEntry}(i:Nat){y:IV},A2 M g ents->iG d k g=some (some y)->sO d k v g=some es'->
  ∃e u,ents[nQ d k g]?=some e/\Instr.findNow d l ents i=some (some (i+nQ d k g,u))/\VR M y u/\u=e.val/\e.key=l/\(∀n,Instr.sameBits n e.key l=true)/\A2 M es' (ents.modify (nQ d k g) λe=> {e with key:=l,val:=rv })
 | [],es',ents,i,y,hm,hf,h=>by simp [iG]at hf
 | (x,z)::g,es',ents,i,y,hm,hf,h=>by
  obtain⟨e,q,rfl,m,G,h2⟩:=hm.uncons;unfold sO at h;unfold iG at hf;unfold nQ
  split at h
  .rename_i j;simp only [j,AC]at hf h;subst h;subst hf;obtain⟨A,Z⟩:=mX j hk m;obtain⟨_,s4,s5⟩:=Z rfl;simp only [j];exact⟨e,e.val,rfl,by simp [Instr.findNow,A],G,rfl,s4.symm,s5,A2.cons hk D h2⟩
  .rename_i j;simp only [j]at hf;obtain⟨A,_⟩:=mX j hk m;obtain⟨r,r1,Y⟩:=AD.1 h;subst Y;obtain⟨e',u,K,L,O,R,T,V,X⟩:=a9J hk D (i+1) h2 hf r1;simp only [j];refine⟨e',u,by simpa using K,?_,O,R,T,V,A2.cons m G X⟩;simp [Instr.findNow,A,L];omega
  .simp at h
theorem b1C{d:TypeDesc}{k:IV}(hk:VR M k X){g:List (IV×IV)}{ents:List MapEntry}(hm:A2 M g ents)(hf:iG d k g=some none):Instr.findNow d X ents 0=some none:=zB hk 0 hm hf
theorem c3A{v:IV}{rv:Value}(j:VR M v rv): ∀{g:List (IV×IV)}{ents:List MapEntry}(n:Nat),A2 M g ents->A2 M (rA v n g) (ents.modify n λe=> {e with val:=rv })
 | [],ents,n,hm=>by
  have:ents=[]:=by have:=hm.len;simpa using this.symm
  subst this;simpa [rA]using hm
 | (x,z)::g,ents,0,hm=>by
  obtain⟨e,q,rfl,i,l,h2⟩:=hm.uncons;exact A2.cons i j h2
 | (x,z)::g,ents,n+1,hm=>by
  obtain⟨e,q,rfl,i,l,h2⟩:=hm.uncons;exact A2.cons i l (c3A j n h2)
def a0E(E:Env)(M:Meta)(h:Heap)(w:World)(o:Oper)(ρ:Operand->Value)(v:Option TV)(h':Heap):Prop:=
 ∃w' M',Inv M' h' w'/\Pres w.heap.size M h w M' h' w'/\
  ((∃x r,v=some (.v x)/\(execOp ρ o).run E.P w= .ok (.value r) w'/\VR M' x r) \/ (v=none/\(execOp ρ o).run E.P w= .ok .skip w'))
section
variable {E:Env} {f:FuncId} {o:Oper} {ev:Operand->Option TV} {ρ:Operand->Value} {pb:Nat->Nat}
theorem a3S(w:World)(c:Array Value)(g:TypeId): ∃fz,NewBlk w (((w.drew.alloc (.cells c g))).freeze ⟨w.heap.size,c.size,none⟩ 1) (.cells c g fz)/\c.size<=fz.1:=by
 refine⟨(c.size,c.size+1),⟨?_,?_,?_,rfl,rfl,rfl⟩,AF _⟩
 .show((w.heap.push (.cells c g)).modify w.heap.size _)[w.heap.size]?=_;rw [DP,if_pos rfl];simp
 .intro b i;show((w.heap.push (.cells c g)).modify w.heap.size _)[b]?=_;rw [DP,if_neg JZ,FS,if_neg JZ]
 .show((w.heap.push (.cells c g)).modify w.heap.size _).size=_;simp
theorem a6J(a:Inv M h w)(hev: ∀x tv,ev x=some tv->TR M pb tv (ρ x)){v:Option TV}(D:iM E f o ev h=some (v,g)):a0E E M h w o ρ v g:=by
 unfold iM at D
 cases hop:o.op with
 |move x=>
  simp only [hop]at D;split at D
  case isFalse=>cases D
  split at D
  case h_2=>cases D
  rename_i id L len sz hx;split at D
  case h_2=>cases D
  rename_i cs hg;split at D
  case isFalse=>cases D
  rename_i hc;simp only [AC,BX]at D;obtain⟨rfl,rfl⟩:=D;obtain⟨M',h1,h2,h3⟩:=a6Q a hg hc.1 hc.2 (bG hev hx);exact⟨w,M',h1,h2,.inl ⟨_,_,rfl,by simp [execOp,hop],h3⟩⟩
 |alloc t=>
  simp only [hop]at D;split at D
  case h_2=>simp at D
  split at D
  .simp at D
  obtain⟨z,h1,h2⟩:=AD.1 D;simp at h2;obtain⟨rfl,rfl⟩:=h2;obtain⟨i,r,h3,h4,h5,h6⟩:=fH (M:=M) h1;have hc:=lR h5 h6;have hl:(cellsOf z).length=r.cells.size:=by simpa using hc.len
  obtain⟨M',Y,Z,q3,q4⟩:=W8 a (fz:=(0,0)) (cs:=cellsOf z) (NewBlk.alloc w (.cells r.cells t)) (.inl (AF _)) JZ (by rw [AJ (by simp;omega)];exact hc);refine⟨_,M',Y,Z,.inl ⟨_,_,rfl,?_,.ptr q3⟩⟩;simp only [execOp,hop];refine cB _ _ ?_;simp only [Instr.alloc,AT,cJ w h3 h4,AL,newVar,Go.newRow,run_newObj,AZ];rfl
 |box t x=>
  simp only [hop]at D;split at D
  case h_2=>simp at D
  rename_i d v' hd hv;split at D
  .simp at D
  split at D
  case isFalse=>simp at D
  rename_i i2;simp at D;obtain⟨rfl,rfl⟩:=D;have hc:=lR (bG hev hv) i2;have hl:(cellsOf v').length=(ρ x).cells.size:=by simpa using hc.len
  obtain⟨M',Y,Z,q3,q4⟩:=W8 a (fz:=(0,0)) (cs:=cellsOf v') (NewBlk.alloc w (.cells (ρ x).cells t)) (.inl (AF _)) JZ (by rw [AJ (by simp;omega)];exact hc);refine⟨_,M',Y,Z,.inl ⟨_,_,rfl,?_,.ptr q3⟩⟩;simp only [execOp,hop];refine cB _ _ ?_;simp only [Instr.box,newVar,Go.newRow,AT,run_newObj,AL,AZ];rfl
 |buildSlice t n parts=>
  simp only [hop]at D;split at D
  case h_2=>simp at D
  rename_i e d hu hd;split at D
  .simp at D
  split at D
  case h_2=>simp at D
  rename_i sz z ps b0 hz hp;split at D
  case isFalse=>simp at D
  rename_i O;obtain⟨cs,h1,h2⟩:=AD.1 D;simp at h2;obtain⟨rfl,rfl⟩:=h2;have i3:PR M ps (parts.map λ(i,x)=>(i,ρ x)).toList:=by
   have:=F4 (M:=M) hev hp;simpa using this
  obtain⟨ro,r1,r2,r3⟩:=vX (P:=E.P) (M:=M) w hu b0 hz O.1 O.2 i3 h1;have j3:ro.size=n*(sz+1):=by have:=r2.len;simp at this;omega
  obtain⟨M',Y,Z,q3⟩:=sI a (E.A f d) (fz:=(0,0)) (NewBlk.alloc w (.cells ro e)) (.inl (AF _)) r3 (AF n) JZ (by rw [AJ (by simp;omega)];exact r2);exact⟨_,M',Y,Z,.inl ⟨_,_,rfl,by simp only [execOp,hop];exact cB _ _ r1,q3⟩⟩
 |makeSlice t lo co=>
  simp only [hop]at D;split at D
  case h_2=>simp at D
  rename_i e d l c hu hd hl hc;split at D
  case h_2=>simp at D
  rename_i sz bytes z b0 d4 hz;split at D
  case isFalse=>simp at D
  rename_i O;obtain⟨b1,b2,b3,b4,e9⟩:=O;simp only [AC,BX]at D;obtain⟨rfl,rfl⟩:=D;obtain⟨kl,i0⟩:=tZ hl;obtain⟨kc,h9⟩:=tZ hc;have vl:VR M (.int kl l) (ρ lo):=hev _ _ i0;have vc:VR M (.int kc c) (ρ co):=hev _ _ h9;generalize hρl:ρ lo=rl at vl;generalize hρc:ρ co=rc at vc
  cases vl
  cases vc
  obtain⟨i,V,b9⟩:=dT b0;obtain⟨i',a8,d7⟩:=oO d4;rw [V]at a8;simp at a8;subst a8;obtain⟨rz,e8,c8⟩:=pE (M:=M) hz V;have d0:=J1 c8 JZ l.toNat;have e6:=J1 c8 JZ c.toNat;rw [e9]at d0 e6;have d9:l.toNat<=c.toNat:=JZ;have j2:l.toNat*(sz+1)<=c.toNat*(sz+1):=CE _ d9;have f6:(fY l.toNat (cellsOf z)).length=l.toNat*(sz+1):=by rw [iV,e9]
  obtain⟨M',Y,Z,q3⟩:=sI a (1-E.A f d) (rc:=(Array.range (c.toNat*(sz+1))).map (rz.cells[· %rz.cells.size]!)) (fz:=(0,0)) (NewBlk.alloc w (.cells _ e)) (.inl (AF _)) f6 d9 KB (by
   rw [f6];have:((Array.range (c.toNat*(sz+1))).map (rz.cells[· %rz.cells.size]!)).toList.take (l.toNat*(sz+1))=((Array.range (l.toNat*(sz+1))).map (rz.cells[· %rz.cells.size]!)).toList:=by
    apply DE;intro j
    by_cases hj:j<l.toNat*(sz+1)
    .simp [hj,show j<c.toNat*(sz+1) by omega]
    .have i1:min l.toNat c.toNat=l.toNat:=FZ d9;simp [hj,i1]
   rw [this];exact d0)
  refine⟨_,M',Y,Z,.inl ⟨_,_,rfl,?_,q3⟩⟩;simp only [execOp,hop,hρl,hρc];refine cB _ _ ?_;have wl:IntKind.i64.wrap l=l:=AA _ JZ;have wc:IntKind.i64.wrap c=c:=AA _ JZ;have t1: ∀n:Int,0<=n->n<=c->(decide (n<0)||decide ((bytes:Int)*n>2^48))=false:=by
   intro n h0 hn;have:(bytes:Int)*n<=bytes*c:=FG hn JZ;have e1:decide (n<0)=false:=by simp;omega
   have e2:decide ((bytes:Int)*n>2^48)=false:=by simp;omega
   rw [e1,e2];rfl
  have i5:(typeInfo e).run E.P w= .ok i w:=by simp [typeInfo,V]
  simp only [Instr.makeSlice,AT,run_underlying hu,AL,asInt,asIntOf,AZ,i5,wl,wc,d7];have e3:(decide (c<0)||decide ((bytes:Int)*c>2^48)||decide (l<0)||decide (l>c))=false:=by
   rw [t1 c JZ JZ];have e1:decide (l<0)=false:=by simp;omega
   have e2:decide (l>c)=false:=by simp;omega
   rw [e1,e2];rfl
  have f2:i.size=sz+1:=b9;simp only [e3,BA,if_false,AZ,AL,run_askRoom,cG V,f2,AT]
  by_cases hn0:c.toNat*(sz+1)=0
  .rw [if_pos hn0];simp only [AT,AZ,AL,Go.newRow,run_newObj,hn0];rw [D0 _ (λx=>rz.cells[x%rz.cells.size]!)];rfl
  .rw [if_neg hn0];simp only [AT,AZ,AL,cJ w V e8,Go.newRow,run_newObj];rfl
 |makeMap t r=>
  simp only [hop]at D;split at D
  case h_2=>simp at D
  simp at D;obtain⟨rfl,rfl⟩:=D;obtain⟨M',Y,Z,q3⟩:=c8X a (NewBlk.alloc w (.map #[] 0));refine⟨_,M',Y,Z,.inl ⟨_,_,rfl,?_,.map q3⟩⟩;simp only [execOp,hop];refine cB _ _ ?_;simp only [Instr.makeMap,IX,AT,AZ,AL,run_newObj];rfl
 |convert s d x=>
  simp only [hop]at D;split at D
  case h_2=>simp at D
  rename_i ds e f9 b hs hd j1 hx;split at D
  case h_2=>simp at D
  rename_i i7;simp at D;obtain⟨rfl,rfl⟩:=D;have b6:=bG hev hx;generalize hρ:ρ x=rx at b6
  cases b6 with
  |str sb=>
   let cap:=grownCap w sb.size 0 e
   let c:Array Value:=sb.data.map (λb=>Value.int .u8 b.toNat)++Array.replicate (cap-sb.size) (.int .u8 0)
   obtain⟨fz,nb,g9⟩:=a3S w c e;have h7:sb.size<=cap:=grownCap_ge w sb.size 0 e;have g6:c.size=cap:=by
    have e1:sb.size=sb.data.size:=rfl;simp [c];omega
   have g5:eP M (sb.data.toList.map λb=>IV.int .u8 b.toNat) (sb.data.toList.map λb=>Value.int .u8 b.toNat):=
    ⟨⟨KB,λi p q=>by simpa using VR.int _ _⟩,λi p=>by simp [isCell]⟩
   obtain⟨M',Y,Z,q3⟩:=sI a (E.A f f9) (len:=sb.data.toList.length) (cs:=sb.data.toList.map λb=>IV.int .u8 b.toNat) (sz:=1) (cap:=cap) nb (.inr g9) KB h7 (by rw [g6];omega) (by
    have:c.toList.take (sb.data.toList.map λb=>IV.int .u8 (b.toNat:Int)).length=sb.data.toList.map λb=>Value.int .u8 b.toNat:=by
     simp only [c,HM,IG,AX];rw [CQ KB,AJ KB]
    rw [this];exact g5)
   refine⟨_,M',Y,Z,.inl ⟨_,_,rfl,?_,q3⟩⟩;simp only [execOp,hop,hρ];refine cB _ _ ?_;have d5:(convert s d (.string sb)).run E.P w=(Conv.stringToBytes e sb).run E.P w:=by
    cases ds<;>simp [convert,run_underlying hs,run_underlying hd,run_underlying i7]
   rw [d5];simp only [Conv.stringToBytes,AT,run_choose,Question.forced,BA,if_false,AL,Go.newRow,run_newObj,AZ,markStringish,run_shape];have c6:({w with drawn:=w.drawn+1,heap:=w.heap.push (.cells c e) } :World).shape? w.heap.size=some (e,c.size):=by
    simp [World.shape?]
   have c1:World.shape? { {w with drawn:=w.drawn+1 }with heap:=({w with drawn:=w.drawn+1 } :World).heap.push (.cells c e) } ({w with drawn:=w.drawn+1 } :World).heap.size=some (e,c.size):=c6;have:=c1;simp only [c,cap,grownCap]at this;rw [this];simp only [AZ,AL,run_freeze,AT];rfl
 |store t ad x=>
  simp only [hop]at D;split at D
  case h_2=>simp at D
  rename_i id L v' ha hx;split at D
  case h_2=>simp at D
  rename_i cs hg;obtain⟨cs',h1,h2⟩:=AD.1 D;simp at h2;obtain⟨rfl,rfl⟩:=h2;have b6:VR M (.ptr id L) (ρ ad):=hev _ _ ha;generalize hρ:ρ ad=ra at b6;obtain⟨b',rc,l1,l2,l3,l4,l5⟩:=a.row hg
  cases b6 with
  | @ptr _ _ b hl=>
   rw [hl]at l1;simp at l1;subst l1;obtain⟨el,fz,c5⟩:=l2.at_;obtain⟨f8,s1,s2,s3,s4,s5,s6⟩:=Yg (P:=E.P) l4 c5 l2.free (bG hev hx) h1;have b8: ∀j,(w.setCells b L (ρ x).cells.toList).frozen? ⟨b,j,none⟩=w.frozen? ⟨b,j,none⟩:=λj=>World.frozen?_setCells b _ _ _ _
   obtain⟨Y,Z⟩:=Oy a (cs':=cs') hg hl (λk hk=>fQ b _ _ _ k hk) (iD b _ _ _) (iC b _ _ _)
    ⟨⟨el,fz,s2⟩,λj hj=>by rw [b8];exact l2.free j JZ,by rw [s3];exact l2.bsz⟩ JZ s5
   refine⟨_,M,Y,Z,.inr ⟨rfl,?_⟩⟩;simp only [execOp,hop,hρ];refine Qm _ _ ?_;simp only [Instr.storeAt,Instr.sureAddr,AT,AZ,AL];exact s1
 |mapUpdate t m k x=>
  simp only [hop]at D;split at D
  case h_2=>simp at D
  rename_i kt et id key v' hu hm hk hx;split at D
  case h_2=>simp at D
  rename_i d es hd hg;split at D
  case isFalse=>simp at D
  rename_i d8;obtain⟨es',h1,h2⟩:=AD.1 D;simp at h2;obtain⟨rfl,rfl⟩:=h2;have a6:=bG hev hm;have a0:=bG hev hk;have c7:=bG hev hx;generalize hρ:ρ m=rm at a6
  cases a6 with
  | @map _ b hl=>
   obtain⟨b',ents,clock,g1,g2,g3,g4⟩:=a.maps id es hg;rw [hl]at g1;simp at g1;subst g1;have b7:=uW (M:=M) (emp:=false) hd d8 a0 w 9999;have a7:(getObj b).run E.P w= .ok (.map ents clock) w:=by simp [getObj,Sem.run,g2]
   have X: ∀ob,(setObj b ob).run E.P w= .ok () {w with heap:=w.heap.setIfInBounds b ob } :=by
    intro ob;simp [setObj,Sem.run,g2]
   have a5:b<w.heap.size:=cQ g2;have fin: ∀K G,A2 M es' K.toList/\Zz K G->(Instr.mapUpdate t (.map (some b)) (ρ k) (ρ x)).run E.P w= .ok () {w with heap:=w.heap.setIfInBounds b (.map K G) } ->a0E E M h w o ρ none (h.set id (.map es')):=by
    intro K G e4 c0;obtain⟨Y,Z⟩:=Sw (w':= {w with heap:=w.heap.setIfInBounds b (.map K G) }) a (ents:=K) (clock:=G) (es':=es') hg hl (λj hj=>by simp [CW,show¬ (b=j)from λe=>hj e.symm]) KB ⟨rfl,rfl,rfl⟩ (by simp [CW,a5]) e4;refine⟨_,M,Y,Z,.inr ⟨rfl,?_⟩⟩;simp only [execOp,hop,hρ];exact Qm _ _ c0
   rcases Gd a0 c7 0 g3 h1 with⟨j,e,u,p1,p2,p3,p4,p5⟩| ⟨p1,rfl⟩
   .refine fin (ents.modify j λe=> {e with key:=ρ k,val:=ρ x }) clock ⟨by rw [HN];exact p5,g4.modify _ _ (λ_=>rfl)⟩ ?_;have hj:ents[j]?=some e:=by rw [<-Array.getElem?_toList];exact p1
    have a9:(Instr.keyThatStays (((ents[j]?).map (·.key)).getD (ρ k)) (ρ k)).run E.P w= .ok (ρ k) w:=by
     simp [hj,Instr.keyThatStays,p4]
    simp only [AY]at p2;simp only [Instr.mapUpdate,AT,run_underlying hu,AL,a7,b7,Instr.findKey,run_underlying hd,p2,AZ,a9,X]
   .refine fin (ents.push {key:=ρ k,val:=ρ x,born:=clock }) (clock+1) ?_ ?_
    .refine⟨?_,g4.push _ _⟩;rw [Array.toList_push];exact⟨by simpa using g3.1.append (cU.cons a0 (cU.nil M)),by simpa using g3.2.append (cU.cons c7 (cU.nil M))⟩
    .simp only [Instr.mapUpdate,AT,run_underlying hu,AL,a7,b7,Instr.findKey,run_underlying hd,p1,AZ,X]
 |mapEntry t m k=>
  simp only [hop]at D;split at D
  case h_2=>simp at D
  rename_i kt et id key hu hm hk;split at D
  case h_2=>simp at D
  rename_i d es z hd hg hz;split at D
  case isFalse=>simp at D
  rename_i d8;obtain⟨⟨rv,rn,es'⟩,h1,h2⟩:=AD.1 D;simp only [AC,BX]at h2;obtain⟨rfl,rfl⟩:=h2;have a6:=bG hev hm;have a0:=bG hev hk;generalize hρ:ρ m=rm at a6
  cases a6 with
  | @map _ b hl=>
   obtain⟨b',ents,clock,g1,g2,g3,g4⟩:=a.maps id es hg;rw [hl]at g1;simp at g1;subst g1;have b7:=uW (M:=M) (emp:=false) hd d8 a0 w 9999;have a7:(getObj b).run E.P w= .ok (.map ents clock) w:=by simp [getObj,Sem.run,g2]
   have X: ∀ob,(setObj b ob).run E.P w= .ok () {w with heap:=w.heap.setIfInBounds b ob } :=by
    intro ob;simp [setObj,Sem.run,g2]
   have a5:b<w.heap.size:=cQ g2;have fin: ∀K G r,A2 M es' K.toList/\Zz K G->VR M (.tuple [rv,.int .i64 rn]) r->(Instr.mapEntry t (.map (some b)) (ρ k)).run E.P w= .ok r {w with heap:=w.heap.setIfInBounds b (.map K G) } ->a0E E M h w o ρ (some (.v (.tuple [rv,.int .i64 rn]))) (h.set id (.map es')):=by
    intro K G r e4 hr c0;obtain⟨Y,Z⟩:=Sw (w':= {w with heap:=w.heap.setIfInBounds b (.map K G) }) a (ents:=K) (clock:=G) (es':=es') hg hl (λj hj=>by simp [CW,show¬ (b=j)from λe=>hj e.symm]) KB ⟨rfl,rfl,rfl⟩ (by simp [CW,a5]) e4;refine⟨_,M,Y,Z,.inl ⟨_,r,rfl,?_,hr⟩⟩;simp only [execOp,hop,hρ];exact cB _ _ c0
   unfold Mx at h1;split at h1
   .rename_i y hf;obtain⟨j4,u1,u2⟩:=AD.1 h1;simp only [BX]at u2;obtain⟨rfl,rfl,rfl⟩:=u2;obtain⟨j0,u0,_,i8⟩:=zB a0 0 g3 hf;obtain⟨e,u,p1,p2,p3,p4,p5,p6,p7⟩:=a9J (v:=y) (rv:=u0) a0 i8 0 g3 hf u1;have hj:ents[nQ d key es]?=some e:=by rw [<-Array.getElem?_toList];exact p1
    simp only [AY]at p2;rename_i j6 _;have i6:u0=u:=by
     have:=(‹Instr.findNow d (ρ k) ents.toList 0=some (some (j0,u0))›);rw [p2]at this;simp only [AC,BX]at this;exact this.2.symm
    subst i6;have f5:(ents.modify (nQ d key es) λe=> {e with key:=ρ k,val:=u0 })=ents.modify (nQ d key es) λe=> {e with key:=ρ k } :=by
     apply Array.ext_getElem?;intro j;rw [DP,DP];split
     .rename_i h8;rw [<-h8,hj];simp [p4]
     .rfl
    refine fin (ents.modify (nQ d key es) λe=> {e with key:=ρ k }) clock (.tuple #[u0,goInt (nQ d key es)]) ⟨?_,g4.modify _ _ (λ_=>rfl)⟩ (eH (cU.cons p3 (cU.cons (.int _ _) (cU.nil M)))) ?_
    .rw [<-f5,HN];exact p7
    have a9:(Instr.keyThatStays (((ents[nQ d key es]?).map (·.key)).getD (ρ k)) (ρ k)).run E.P w= .ok (ρ k) w:=by
     simp [hj,Instr.keyThatStays,p6]
    have d3:(((ents[nQ d key es]?).map (λx=>(x.born:Int))).getD 0)=(nQ d key es:Int):=by
     rw [hj];have:=g4.2 _ _ hj;simp [this]
    simp only [Instr.mapEntry,AT,run_underlying hu,AL,a7,b7,Instr.findKey,run_underlying hd,p2,AZ,a9,X,d3]
   .rename_i hf;simp only [AC,BX]at h1;obtain⟨rfl,rfl,rfl⟩:=h1;obtain⟨i,r,z1,z2,z3,z4⟩:=fH (M:=M) hz;have g8:=b1C a0 g3 hf;have g0:clock=es.length:=by rw [g4.1];have:=g3.len;simpa using this.symm
    refine fin (ents.push {key:=ρ k,val:=r,born:=clock }) (clock+1) (.tuple #[r,goInt clock]) ⟨?_,g4.push _ _⟩ (eH (cU.cons z3 (cU.cons (by rw [g0];exact .int _ _) (cU.nil M)))) ?_
    .rw [Array.toList_push];exact⟨by simpa using g3.1.append (cU.cons a0 (cU.nil M)),by simpa using g3.2.append (cU.cons z3 (cU.nil M))⟩
    .simp only [Instr.mapEntry,AT,run_underlying hu,AL,a7,b7,Instr.findKey,run_underlying hd,g8,AZ,cJ w z1 z2,X]
   .cases h1
 |entryStore t m s x=>
  simp only [hop]at D;split at D
  case h_2=>simp at D
  rename_i id kd n v' hm hs hx;split at D
  case h_2=>simp at D
  rename_i es hg;split at D
  case isFalse=>simp at D
  rename_i hn;simp only [AC,BX]at D;obtain⟨rfl,rfl⟩:=D;have a6:=bG hev hm;have c3:=bG hev hs;have c7:=bG hev hx;generalize hρ:ρ m=rm at a6;generalize hρs:ρ s=rs at c3
  cases c3
  cases a6 with
  | @map _ b hl=>
   obtain⟨b',ents,clock,g1,g2,g3,g4⟩:=a.maps id es hg;rw [hl]at g1;simp at g1;subst g1;have a7:(getObj b).run E.P w= .ok (.map ents clock) w:=by simp [getObj,Sem.run,g2]
   have X: ∀ob,(setObj b ob).run E.P w= .ok () {w with heap:=w.heap.setIfInBounds b ob } :=by
    intro ob;simp [setObj,Sem.run,g2]
   have a5:b<w.heap.size:=cQ g2;have f3:es.length=ents.size:=by have:=g3.len;simpa using this
   have e5:n.toNat<ents.size:=JZ;have g7:ents.findIdx? (λe=>(e.born:Int)==n)=some n.toNat:=by
    rw [Array.findIdx?_eq_some_iff_getElem];refine⟨e5,?_,λj hj=>?_⟩
    .have:=g4.2 n.toNat _ (IB e5);rw [this];simp;omega
    .have:=g4.2 j _ (IB JZ);rw [this];simp;omega
   obtain⟨Y,Z⟩:=Sw (w':= {w with heap:=w.heap.setIfInBounds b (.map (ents.modify n.toNat λe=> {e with val:=ρ x }) clock) }) a (ents:=ents.modify n.toNat λe=> {e with val:=ρ x }) (clock:=clock) (es':=rA v' n.toNat es) hg hl (λj hj=>by simp [CW,show¬ (b=j)from λe=>hj e.symm]) KB ⟨rfl,rfl,rfl⟩ (by simp [CW,a5]) ⟨by rw [HN];exact c3A c7 _ g3,g4.modify _ _ (λ_=>rfl)⟩;refine⟨_,M,Y,Z,.inr ⟨rfl,?_⟩⟩;simp only [execOp,hop,hρ,hρs];refine Qm _ _ ?_;simp only [Instr.entryStore,AT,AZ,AL,a7,asInt,asIntOf,g7,X]
 |call c=>
  obtain⟨c4,c9,T⟩:=c;simp only [hop]at D
  cases c4 with
  |value x=>simp at D
  |invoke x n=>simp at D
  |builtin b=>
   cases b
   case append=>
    simp only at D;split at D
    case h_2=>simp at D
    rename_i t u sx xx d2 d1;have f0:T= #[t,u]:=by apply EL;simpa using d2
    have b5:c9= #[sx,xx]:=by apply EL;simpa using d1
    split at D
    case h_2=>simp at D
    rename_i s x e du d hs hx ht hu hd;split at D
    case h_2=>simp at D
    rename_i sz bytes z b0 d4 hz;split at D
    case isFalse=>simp at D
    rename_i O;obtain⟨e9,hk⟩:=O;obtain⟨⟨r,j5⟩,h1,h2⟩:=AD.1 D;simp at h2;obtain⟨rfl,rfl⟩:=h2;obtain⟨i,V,b9⟩:=dT b0;obtain⟨i',a8,d7⟩:=oO d4;rw [V]at a8;simp at a8;subst a8;obtain⟨rz,e8,c8⟩:=pE (M:=M) hz V;have i9:rz.cells.size=sz+1:=by have:=c8.len;simp at this;omega
    obtain⟨rr,w',M',a1,a2,a3,a4⟩:=b0N (P:=E.P) a (ty:=o.type) ht V b9 d7 e8 i9 hu hk (bG hev hs) (bG hev hx) h1;refine⟨w',M',a3,a4,.inl ⟨_,rr,rfl,?_,a2⟩⟩;subst f0;subst b5;simp only [execOp,hop,resolve,invoke,AT,AZ,AL,builtin];simp only [II,BN,DT,a1,AL]
   case copy=>
    simp only at D;split at D
    case h_2=>simp at D
    rename_i t ts sx xx d2 d1;have b5:c9= #[sx,xx]:=by apply EL;simpa using d1
    split at D
    case h_2=>simp at D
    rename_i id L len z x e hs hx ht;split at D
    case h_2=>simp at D
    rename_i sz cs b0 hg;split at D
    case h_2=>simp at D
    rename_i n xs f7;split at D
    case isFalse=>simp at D
    rename_i O;obtain⟨rfl,j7⟩:=O;simp only [AC,BX]at D;obtain⟨rfl,rfl⟩:=D;obtain⟨i,V,b9⟩:=dT b0;obtain⟨s1,s2,s3,s4⟩:=Sy (P:=E.P) a (bG hev hx) f7;obtain⟨R,n1,n2,n3,n4⟩:=s4 (min n len) (Nat.min_le_left _ _);obtain⟨b',rc,l1,l2,l3,l4,l5⟩:=a.row hg;have c3:=bG hev hs;generalize hρ:ρ sx=rs at c3;have f1:T[0]?=some t:=by rw [<-Array.getElem?_toList,d2];rfl
    cases c3 with
    | @hslice _ _ _ _ cap b ad hl had f3=>
     rw [hl]at l1;simp at l1;subst l1;have j8:min n len*(sz+1)<=len*(sz+1):=CE _ (Nat.min_le_right _ _);have e5:(xs.take (min n len*(sz+1))).length=R.length:=n1.len;obtain⟨el,fz,c5⟩:=l2.at_;obtain⟨f8,e1,e2⟩:=jV b R L w rc el fz c5 JZ;have e7:f8.size=rc.size:=by
      have:=congrArg List.length e2;rw [rC _ _ _ (by simp;omega)]at this;simpa using this
     have b8: ∀j,(w.setCells b L R).frozen? ⟨b,j,none⟩=w.frozen? ⟨b,j,none⟩:=λj=>World.frozen?_setCells b _ _ _ _
     have c2:(spl cs L (xs.take (min n len*(sz+1)))).length=cs.length:=by
      simp only [spl,AI,AW,DJ];omega
     obtain⟨Y,Z⟩:=Oy a (cs':=spl cs L (xs.take (min n len*(sz+1)))) hg hl (λk hk=>fQ b _ _ _ k hk) (iD b _ _ _) (iC b _ _ _)
      ⟨⟨el,fz,e1⟩,λj hj=>by rw [b8];exact l2.free j JZ,by rw [e7];exact l2.bsz⟩ (by rw [c2];omega) (by
       rw [c2,e2];have:(rT rc.toList L R).take cs.length=rT (rc.toList.take cs.length) L R:=by
        simp only [rT];rw [FO,FO];simp only [AW,AI,HO,EV];rw [show min L rc.size=L from JZ,show min cs.length L=L from JZ,show min L cs.length=L from JZ];rw [AJ (l:=R) JZ,List.drop_take]
       rw [this];exact l4.spl n1 L)
     refine⟨_,M,Y,Z,.inl ⟨_,goInt (min n len:Nat),rfl,?_,.int _ _⟩⟩;subst b5;simp only [execOp,hop,resolve,invoke,AT,AZ,AL,builtin];have d6:(Builtin.copy_ T o.type #[.slice (some ad) len cap,ρ xx]).run E.P w= .ok (goInt (min n len:Nat)) (w.setCells b L R):=by
      have i4:(storeCells ad R 0).run E.P w= .ok () (w.setCells b L R):=by
       by_cases h0:cap=0
       .have:R=[]:=by
         have:min n len=0:=JZ;rw [this]at n2;simpa using n2
        subst this;rfl
       .obtain⟨rfl,_⟩:=had.resolve_left h0;exact run_storeCells_cells (P:=E.P) b L R 0 w (by
         intro j hj;simp [World.cell?,c5,show L+j<rc.size by omega]) (by
         intro j hj;simpa using l2.free (L+j) JZ) n1.one
      have f4:Nat.min n len=min n len:=rfl;simp [Builtin.copy_,f1,run_underlying ht,s2,cG V,b9,f4,n3,i4]
     simp only [II,BN,DT,hρ,d6,AL]
   all_goals simp at D
 |_=>simp [hop]at D
end
end
end Go.Pv
end
section
namespace Go.Pv
open Go
def vW(h:Heap)(m g sz bytes:Nat)(s x:IV):Option (IV×Heap):=match s,x with
 | .nilslice,.hslice _ _ _ _=>none
 | .nilslice,x=>match gO h sz x with
  |some (n,xs)=>if 0<n/\n*bytes<=140737488355328 then some (pJ h m g n sz xs)else none
  |none=>none
 |_,_=>none
section
variable {P:Program} {M:Meta} {h:Heap} {w:World}
theorem Ul(a:Inv M h w){m:Nat}(X:h.get m= .free){L sz bytes:Nat}{t tx ty e:TypeId}{i:TypeInfo}{z:Value}{du:TypeDesc}{s x v:IV}{rs Z:Value}(ht:P.underlying t=some (.slice e))(hi:P.info? e=some i)(Y:i.size=sz+1)(T:i.bytes=bytes+1)
  (hz:i.zero=some z) (hzl:z.cells.size=sz+1) (hu:P.underlying tx=some du) (hk:oS du=true) (hs:VR M s rs) (hx:VR M x Z) (happ:vW h m L (sz+1) (bytes+1) s x=some (v,g)):
  ∃r w' M',(Builtin.append_ #[t,tx] ty #[rs,Z]).run P w= .ok r w'/\VR M' v r/\Inv M' g w'/\Pres w.heap.size M h w M' g w':=by
 unfold vW at happ;split at happ
 .simp at happ
 .split at happ
  case h_2=>simp at happ
  rename_i n xs y;split at happ
  case isFalse=>simp at happ
  rename_i R;obtain⟨hn,hb⟩:=R;simp only [AC]at happ
  cases hs
  obtain⟨j,hc,hS⟩:=a9G (P:=P) a hu hk hx y;have l:xs.length=n*(sz+1):=(Sy (P:=P) a hx y).1;have K:j.length=n*(sz+1):=by rw [<-hc.len,l]
  rw [<-Y]at hS;have A: ∀m,(Builtin.zeroCells z.cells m).size=m*(sz+1):=λm=>by rw [size_zeroCells,hzl]
  have G:Builtin.nextslicecap (0+n) 0*i.bytes<=281474976710656:=growslice_fits JZ (by rw [T];simpa using hb);have O:((0+n:Nat):Int)<=9223372036854775807:=by
   have:n*1<=n*(bytes+1):=EX _ JZ;omega
  have u:=run_append_grow_src (P:=P) w t tx ty e i z ht hi hz none 0 0 [] (run_firstCells_none w.drew i.size 0 0 0) Z n j hS JZ O G;simp only [DG,AY]at u;have V:=grownCap_ge w n 0 e;have D:grownCap w n 0 e*(sz+1)<=(j.toArray++Builtin.zeroCells z.cells (grownCap w n 0 e-n)).size:=by
   simp only [FH,DZ,K,A];rw [<-Nat.add_mul];exact CE _ JZ
  obtain⟨M',r1,r2,r3⟩:=Ac a X L (λ_=>by rw [l];exact JX hn (CO _)) (fz:=(0,0)) (vY w _) (.inl (AF _)) l V D (by
   rw [l,<-K];simpa using hc)
  rw [happ]at r1 r2 r3;exact⟨_,_,M',u,r3,r1,r2⟩
 .simp at happ
end
section
variable (E:Env) (f:FuncId) (o:Oper) (ev:Operand->Option TV) (h:Heap) (n:Nat)
def c7G:Option (Option TV×Heap):=
 match o.op with
 | .alloc t=>match o.dst with
  |some d=>if E.bx f d=0 then none else(dA E.P t).map λz=>(some (.v (.ptr n 0)),h.set n (.cells (cellsOf z)))
  |none=>none
 | .makeSlice t l c=>match E.P.underlying t,o.dst,Lw (ev l),Lw (ev c)with
  |some (.slice e),some d,some l,some c=>match iN E.P e,kL E.P e,dA E.P e with
   |some (sz+1),some bytes,some z=>
    if 0<=l/\l<=c/\c<=9223372036854775807/\bytes*c<=140737488355328/\(cellsOf z).length=sz+1/\(1-E.A f d=0->0<l.toNat)then
     let r:=pJ h n (1-E.A f d) l.toNat (sz+1) (fY l.toNat (cellsOf z));some (some (.v r.1),r.2)
    else none
   |_,_,_=>none
  |_,_,_,_=>none
 | .makeMap _ r=>match r with
  |none=>some (some (.v (.map n)),h.set n (.map []))
  |some _=>none
 | .call {callee:= .builtin .append,args,argTypes } =>
  match argTypes.toList,args.toList with
  | [t,u],[sx,xx]=>match bH (ev sx),bH (ev xx),E.P.underlying t,E.P.underlying u,o.dst with
   |some s,some x,some (.slice e),some du,some d=>match iN E.P e,kL E.P e,dA E.P e with
    |some (sz+1),some (bytes+1),some z=>if(cellsOf z).length=sz+1/\oS du=true then(vW h n (E.A f d) (sz+1) (bytes+1) s x).map λr=>(some (.v r.1),r.2)else none
    |_,_,_=>none
   |_,_,_,_,_=>none
  |_,_=>none
 |_=>none
end
section
variable {M:Meta} {h:Heap} {w:World} {E:Env} {f:FuncId} {o:Oper} {ev:Operand->Option TV} {ρ:Operand->Value} {pb:Nat->Nat}
theorem c7I(a:Inv M h w){n:Nat}(hn:h.get n= .free)(hev: ∀x tv,ev x=some tv->TR M pb tv (ρ x)){v:Option TV}(m:c7G E f o ev h n=some (v,g)):a0E E M h w o ρ v g:=by
 unfold c7G at m
 cases hop:o.op with
 |alloc t=>
  simp only [hop]at m;split at m
  case h_2=>simp at m
  split at m
  .simp at m
  obtain⟨z,h1,h2⟩:=AD.1 m;simp at h2;obtain⟨rfl,rfl⟩:=h2;obtain⟨i,r,h3,h4,h5,h6⟩:=fH (M:=M) h1;have hc:=lR h5 h6;have hl:(cellsOf z).length=r.cells.size:=by simpa using hc.len
  obtain⟨M',q1,q2,q3,q4⟩:=Np a hn (fz:=(0,0)) (cs:=cellsOf z) (NewBlk.alloc w (.cells r.cells t)) (.inl (AF _)) JZ (by rw [AJ (by simp;omega)];exact hc);refine⟨_,M',q1,q2,.inl ⟨_,_,rfl,?_,.ptr q3⟩⟩;simp only [execOp,hop];refine cB _ _ ?_;simp only [Instr.alloc,AT,cJ w h3 h4,AL,newVar,Go.newRow,run_newObj,AZ];rfl
 |makeSlice t lo co=>
  simp only [hop]at m;split at m
  case h_2=>simp at m
  rename_i e d l c hu hd hl hc;split at m
  case h_2=>simp at m
  rename_i sz bytes z a6 V hz;split at m
  case isFalse=>simp at m
  rename_i D;obtain⟨b1,b2,b3,b4,a8,b5⟩:=D;simp only [AC,BX]at m;obtain⟨rfl,rfl⟩:=m;obtain⟨kl,c1⟩:=tZ hl;obtain⟨kc,c0⟩:=tZ hc;have vl:VR M (.int kl l) (ρ lo):=hev _ _ c1;have vc:VR M (.int kc c) (ρ co):=hev _ _ c0;generalize hρl:ρ lo=rl at vl;generalize hρc:ρ co=rc at vc
  cases vl
  cases vc
  obtain⟨i,y,X⟩:=dT a6;obtain⟨i',G,Y⟩:=oO V;rw [y]at G;simp at G;subst G;obtain⟨L,a7,R⟩:=pE (M:=M) hz y;have T:=J1 R JZ l.toNat;have a0:=J1 R JZ c.toNat;rw [a8]at T a0;have Z:l.toNat<=c.toNat:=JZ;have c5:l.toNat*(sz+1)<=c.toNat*(sz+1):=CE _ Z;have a5:(fY l.toNat (cellsOf z)).length=l.toNat*(sz+1):=by rw [iV,a8]
  obtain⟨M',q1,q2,q3⟩:=Ac a hn (1-E.A f d) (by intro hw;rw [a5];have:=b5 hw;exact JX this (CO _)) (rc:=(Array.range (c.toNat*(sz+1))).map (L.cells[· %L.cells.size]!)) (fz:=(0,0)) (NewBlk.alloc w (.cells _ e)) (.inl (AF _)) a5 Z KB (by
   rw [a5];have:((Array.range (c.toNat*(sz+1))).map (L.cells[· %L.cells.size]!)).toList.take (l.toNat*(sz+1))=((Array.range (l.toNat*(sz+1))).map (L.cells[· %L.cells.size]!)).toList:=by
    apply DE;intro j
    by_cases hj:j<l.toNat*(sz+1)
    .simp [hj,show j<c.toNat*(sz+1) by omega]
    .have c2:min l.toNat c.toNat=l.toNat:=FZ Z;simp [hj,c2]
   rw [this];exact T)
  refine⟨_,M',q1,q2,.inl ⟨_,_,rfl,?_,q3⟩⟩;simp only [execOp,hop,hρl,hρc];refine cB _ _ ?_;have wl:IntKind.i64.wrap l=l:=AA _ JZ;have wc:IntKind.i64.wrap c=c:=AA _ JZ;have t1: ∀n:Int,0<=n->n<=c->(decide (n<0)||decide ((bytes:Int)*n>2^48))=false:=by
   intro n h0 hn;have:(bytes:Int)*n<=bytes*c:=FG hn JZ;have e1:decide (n<0)=false:=by simp;omega
   have e2:decide ((bytes:Int)*n>2^48)=false:=by simp;omega
   rw [e1,e2];rfl
  have c3:(typeInfo e).run E.P w= .ok i w:=by simp [typeInfo,y]
  simp only [Instr.makeSlice,AT,run_underlying hu,AL,asInt,asIntOf,AZ,c3,wl,wc,Y];have e3:(decide (c<0)||decide ((bytes:Int)*c>2^48)||decide (l<0)||decide (l>c))=false:=by
   rw [t1 c JZ JZ];have e1:decide (l<0)=false:=by simp;omega
   have e2:decide (l>c)=false:=by simp;omega
   rw [e1,e2];rfl
  have b7:i.size=sz+1:=X;simp only [e3,BA,if_false,AZ,AL,run_askRoom,cG y,b7,AT]
  by_cases hn0:c.toNat*(sz+1)=0
  .rw [if_pos hn0];simp only [AT,AZ,AL,Go.newRow,run_newObj,hn0];rw [D0 _ (λx=>L.cells[x%L.cells.size]!)];rfl
  .rw [if_neg hn0];simp only [AT,AZ,AL,cJ w y a7,Go.newRow,run_newObj];rfl
 |makeMap t r=>
  simp only [hop]at m;split at m
  case h_2=>simp at m
  simp at m;obtain⟨rfl,rfl⟩:=m;obtain⟨M',q1,q2,q3⟩:=c8K a hn (NewBlk.alloc w (.map #[] 0));refine⟨_,M',q1,q2,.inl ⟨_,_,rfl,?_,.map q3⟩⟩;simp only [execOp,hop];refine cB _ _ ?_;simp only [Instr.makeMap,IX,AT,AZ,AL,run_newObj];rfl
 |call c=>
  obtain⟨O,a9,K⟩:=c;simp only [hop]at m
  cases O with
  |value x=>simp at m
  |invoke x n=>simp at m
  |builtin b=>
   cases b
   case append=>
    simp only at m;split at m
    case h_2=>simp at m
    rename_i t u sx xx b9 b8;have b6:K= #[t,u]:=by apply EL;simpa using b9
    have b0:a9= #[sx,xx]:=by apply EL;simpa using b8
    split at m
    case h_2=>simp at m
    rename_i s x e du d hs hx ht hu hd;split at m
    case h_2=>simp at m
    rename_i sz bytes z a6 V hz;split at m
    case isFalse=>simp at m
    rename_i D;obtain⟨a8,hk⟩:=D;obtain⟨⟨r,c6⟩,h1,h2⟩:=AD.1 m;simp at h2;obtain⟨rfl,rfl⟩:=h2;obtain⟨i,y,X⟩:=dT a6;obtain⟨i',G,Y⟩:=oO V;rw [y]at G;simp at G;subst G;obtain⟨L,a7,R⟩:=pE (M:=M) hz y;have c4:L.cells.size=sz+1:=by have:=R.len;simp at this;omega
    obtain⟨rr,w',M',a1,a2,a3,a4⟩:=Ul (P:=E.P) a hn (ty:=o.type) ht y X Y a7 c4 hu hk (bG hev hs) (bG hev hx) h1;refine⟨w',M',a3,a4,.inl ⟨_,rr,rfl,?_,a2⟩⟩;subst b6;subst b0;simp only [execOp,hop,resolve,invoke,AT,AZ,AL,builtin];simp only [II,BN,DT,a1,AL]
   all_goals simp at m
 |_=>simp [hop]at m
theorem a9F{sz:Nat}{x:IV}{r:Nat×Y14}(g:d1C sz x=some r)(h:Heap):gO h sz x=some r/\∀id off len z,x≠ .hslice id off len z:=by
 unfold d1C at g;unfold gO
 cases x<;>simp_all
theorem c7H{n:Nat}{v:Option TV}{x:IObj}(g:Bl E f o ev n=some (v,some x)):c7G E f o ev h n=some (v,h.set n x):=by
 unfold Bl at g;unfold c7G
 cases hop:o.op<;>simp only [hop]at g⊢
 all_goals try (cases g;done)
 case alloc t=>
  split at g
  .rename_i d hd;split at g
   .cases g
   .rename_i R;obtain⟨z,h1,h2⟩:=AD.1 g;simp only [BX,AC]at h2;obtain⟨rfl,rfl⟩:=h2;simp [hd,R,h1]
  .cases g
 case makeSlice t l c=>
  split at g
  case h_2=>cases g
  rename_i e d l c T hd hl G;split at g
  case h_2=>cases g
  rename_i sz bytes z y j X;simp only [T,hd,hl,G,y,j,X];split at g
  .rename_i G;simp only [AC,BX]at g;obtain⟨rfl,rfl⟩:=g;rw [if_pos G];rfl
  .cases g
 case makeMap t r=>
  split at g
  .simp only [AC,BX]at g;obtain⟨rfl,rfl⟩:=g;rfl
  .cases g
 case call c=>
  obtain⟨i,Y,D⟩:=c
  cases i with
  |value x=>simp at g
  |invoke x n=>simp at g
  |builtin b=>
   cases b<;>simp only at g⊢
   all_goals try (cases g;done)
   split at g
   case h_2=>cases g
   rename_i t u sx xx O L;split at g
   case h_2=>cases g
   rename_i x1 e du d hs V ht T hd;split at g
   case h_2=>cases g
   rename_i sz bytes z y j X;simp only [O,L,hs,V,ht,T,hd,y,j,X];split at g
   case isFalse=>cases g
   rename_i G;rw [if_pos G];split at g
   case h_2=>cases g
   rename_i k xs K;split at g
   .simp at g
   rename_i hk;split at g
   case isFalse=>cases g
   rename_i R;simp only [AC,BX]at g;obtain⟨rfl,rfl⟩:=g;obtain⟨Z,e2⟩:=a9F K h;have: ∀{x:IV}(_: ∀id off len z,x≠ .hslice id off len z){m A sz bytes:Nat},vW h m A sz bytes .nilslice x=match gO h sz x with
     |some (n,xs)=>if 0<n/\n*bytes<=140737488355328 then some (pJ h m A n sz xs)else none
     |none=>none:=by
    intro x V m A sz bytes;unfold vW
    cases x
    case hslice id off len z=>exact absurd rfl (V id off len z)
    all_goals rfl
   rw [this e2,Z];simp only;rw [if_pos ⟨JZ,R⟩];rfl
theorem b4K{n:Nat}{v:Option TV}(g:Bl E f o ev n=some (v,none)):iM E f o ev h=some (v,h):=by
 unfold Bl at g;unfold iM
 cases hop:o.op<;>simp only [hop]at g⊢
 all_goals try (cases g;done)
 case alloc t=>
  split at g
  .split at g
   .cases g
   .obtain⟨z,h1,h2⟩:=AD.1 g;simp at h2
  .cases g
 case makeSlice t l c=>
  split at g
  case h_2=>cases g
  split at g
  case h_2=>cases g
  split at g
  .simp at g
  .cases g
 case makeMap t r=>
  split at g
  .simp at g
  .cases g
 case call c=>
  obtain⟨i,K,j⟩:=c
  cases i with
  |value x=>simp at g
  |invoke x n=>simp at g
  |builtin b=>
   cases b<;>simp only at g⊢
   all_goals try (cases g;done)
   split at g
   case h_2=>cases g
   rename_i t u sx xx A y;split at g
   case h_2=>cases g
   rename_i x1 e Z d R X T V hd;split at g
   case h_2=>cases g
   rename_i sz bytes z G D Y;simp only [A,y,R,X,T,V,hd,G,D,Y];split at g
   case isFalse=>cases g
   rename_i O;rw [if_pos O];split at g
   case h_2=>cases g
   rename_i k xs m;obtain⟨L,e2⟩:=a9F m h;split at g
   .rename_i hk;simp only [AC,BX,and_true]at g;subst g;unfold nL
    rw [L];simp [hk]
   .split at g
    .simp at g
    .cases g
theorem d7C(a:Inv M h w){n:Nat}(hev: ∀x tv,ev x=some tv->TR M pb tv (ρ x)){v:Option TV}{x:IObj}(i:h.get n= .free)(g:Bl E f o ev n=some (v,some x)):a0E E M h w o ρ v (h.set n x):=c7I a i hev (c7H g)
theorem c7J(a:Inv M h w){n:Nat}(hev: ∀x tv,ev x=some tv->TR M pb tv (ρ x)){v:Option TV}(g:Bl E f o ev n=some (v,none)):a0E E M h w o ρ v h:=a6J a hev (b4K g)
end
end Go.Pv
end
end
