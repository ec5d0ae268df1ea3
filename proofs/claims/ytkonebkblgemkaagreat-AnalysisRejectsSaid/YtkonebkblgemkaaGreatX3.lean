/-
  Texts of this proof, one after the other.
  Conditions: none.
-/
import Derived.Test.YtkonebkblgemkaaGreatX2
set_option linter.unusedVariables false
set_option linter.unusedSimpArgs false
set_option maxRecDepth 100000
set_option maxHeartbeats 4000000
noncomputable section
section
namespace Go.Pv
section
variable {M:Meta} {h:Heap} {w:World}
def c5L(g:Heap->IV->IV×Heap):Prop:=
 ∀(M:Meta)(h:Heap)(w:World)(v:IV)(r:Value),Inv M h w->VR M v r-> ∃M',Inv M' (g h v).2 w/\Pres w.heap.size M h w M' (g h v).2 w/\VR M' (g h v).1 r/\isCell (g h v).1=isCell v
theorem e5D{id l len sz:Nat}{cs:List IV}{r:Value}(a:Inv M h w)(L:h.get id= .cells cs)(h0:0<sz)(a0:l+len*sz<=cs.length)(hv:VR M (.hslice id l len sz) r):
  ∃M',Inv M' (h.set id .dead) w/\Pres w.heap.size M h w M' (h.set id .dead) w/\VR M' (.vslice none 0 len sz ((cs.drop l).take (len*sz))) r:=by
 obtain⟨b,rc,O,l2,l3,l4,l5⟩:=a.cells id cs L
 cases hv with
 | @hslice _ _ _ _ cap b' ad hl z hlen=>
  rw [hl]at O;simp at O;subst O;have Y:id<h.next:=by
   rcases h2D id h.next with q|q
   ·exact q
   ·rw [a.fresh id q]at L;simp at L
  let M':Meta:= {M with im:=fun c o=>if c=b' then rc[o]? else M.im c o }
  have Z:Ext M M':=⟨h1D _,fun _ _ x=>x,fun c o v x=>by
   simp only [M'];split
   ·rename_i T;subst T;rw [l5]at x;simp at x
   ·exact x,fun _ _ x=>x,fun _ _=>h1D _,fun _ _ _=>rfl⟩
  have g:(h.set id .dead).get id= .dead:=by rw [Heap.get_set,if_pos rfl]
  obtain⟨el,fz,V⟩:=l2.at_;have m:Inv M' (h.set id .dead) w/\Pres w.heap.size M h w M' (h.set id .dead) w:=by
   refine UpdS.done (S:=fun j=>j=id) (tb:=b') ?_ a;refine {
    get:=fun j K=>by rw [Heap.get_set,if_neg K],loc:=fun _ _=>rfl,tip:=fun _ _=>rfl,cur:=fun _ _=>rfl,heap:=fun _ _ _=>rfl,im:=fun c o T=>by simp [M',T],bsz:=fun _ _=>rfl,size:=h1D _,
    os:=rfl,tape:=rfl,output:=rfl,own:= .inl ⟨id,rfl,by simp [Wb,L,hl]⟩,wb:=?_,one:=fun i i' e e' _ _=>e.trans e'.symm,ext:=Z,nid:=a.nid,fresh:=?_,freshl:=a.freshl,imtb:=?_,bsztb:=fun n x=>a.bsz b' n x,cells:=?_,tips:=?_,maps:=?_,resv:=fun i u e=>by subst u;simp [Heap.get_set]at e }
   ·intro i c e ew;subst e;simp [Wb,g]at ew
   ·intro j K;rw [Heap.next_set]at K;rw [Heap.get_set,if_neg (by omega)];exact a.fresh j K
   ·intro o v x;simp only [M',if_true]at x;simp only [World.cell?,V,h3S,h1X,if_false];exact x
   ·intro i cs' e A;subst e;rw [g]at A;simp at A
   ·intro i cs' e A;subst e;rw [g]at A;simp at A
   ·intro i cs' e A;subst e;rw [g]at A;simp at A
  have y:=((l4.drop l).take (len*sz)).mono Z;have p:((cs.drop l).take (len*sz)).length=len*sz:=by simp;omega
  refine⟨M',m.1,m.2,?_⟩;refine .vslice ad (fun i=>(((rc.toList.take cs.length).drop l).take (len*sz)).getD i undef) p hlen ?_ ?_ ?_ y.2 (by simp) (fun _=> .inl rfl)
  ·rcases z with z| ⟨rfl,n,hn,G⟩
   ·exact .inl z
   ·exact .inr ⟨rfl,n,hn,G⟩
  ·intro i u;rw [p]at u;have D:cap≠0:=by
    intro e;have:len=0:=by omega
    subst this;simp at u
   obtain⟨rfl,_⟩:=z.resolve_left D;have X:l+i<rc.size:=by omega
   simp only [M',if_true,h1A];rw [h4H,if_pos u,h4N,h4H,if_pos (by omega)];simp [X]
  ·intro i u;have:=y.1.2 i u (by rw [<-y.len];exact u);simp only [h1A];rw [h0U (by rw [<-y.len];exact u)];exact this
theorem c5M:c5L rH:=by
 intro M h w v r a g
 by_cases e:rH h v=(v,h)
 ·rw [e];exact⟨M,a,Pres.refl _ _ _ _,g,rfl⟩
 ·cases v with
  |hslice id off len sz=>
   cases hg:h.get id with
   |cells cs=>
    by_cases hc:0<sz/\off+len*sz<=cs.length
    ·have i:rH h (.hslice id off len sz)=(.vslice none 0 len sz ((cs.drop off).take (len*sz)),h.set id .dead):=by
      simp only [rH,hg];rw [if_pos hc]
     rw [i];obtain⟨M',h1,h2,h3⟩:=e5D a hg hc.1 hc.2 g;exact⟨M',h1,h2,h3,rfl⟩
    ·exact absurd (by simp only [rH,hg];rw [if_neg hc]) e
   |tip n=>exact absurd (by simp only [rH,hg]) e
   |map es=>exact absurd (by simp only [rH,hg]) e
   |dead=>exact absurd (by simp only [rH,hg]) e
   |free=>exact absurd (by simp only [rH,hg]) e
  |_=>exact absurd rfl e
theorem a1V{g:Heap->IV->IV×Heap}(u:c5L g): ∀(vs:List IV)(M:Meta)(h:Heap)(w:World)(rs:List Value),Inv M h w->cW M vs rs->
  ∃M',Inv M' (uO g h vs).2 w/\Pres w.heap.size M h w M' (uO g h vs).2 w/\cW M' (uO g h vs).1 rs/\(uO g h vs).1.length=vs.length/\((∀(i:Nat)(m:i<vs.length),isCell vs[i]=true)-> ∀(i:Nat)(m:i< (uO g h vs).1.length),isCell (uO g h vs).1[i]=true)
 | [],M,h,w,rs,a,hv=>⟨M,a,Pres.refl _ _ _ _,hv,rfl,fun l=>l⟩
 |v::vs,M,h,w,rs,a,hv=>by
  obtain⟨r,p,rfl,h1,h2⟩:=hv.uncons;obtain⟨L,O,z,D,X⟩:=u M h w v r a h1;obtain⟨G,A,y,T,c4,K⟩:=a1V u vs L (g h v).2 w p O (h2.mono z.ext);refine⟨G,A,z.trans y,cW.cons (D.mono y.ext) T,by simp [uO,c4],fun l i m=>?_⟩;simp only [uO]
  cases i with
  |zero=>
   have:=l 0 (by simp);simp only [h6L]at this⊢;rw [X];exact this
  |succ i=>
   simp only [h6M];exact K (fun j V=>by have:=l (j+1) (by simpa using V);simpa using this) i (by simpa [uO]using m)
theorem b0K:c5L b3O:=by
 intro M h w v r a g
 cases v with
 |agg cs=>
  obtain⟨rc,rfl,i⟩:=yO g;obtain⟨M',j,m,p,c4,l⟩:=a1V c5M cs M h w rc a i.1;exact⟨M',j,m,gW ⟨p,l i.2⟩,rfl⟩
 |_=>exact c5M M h w _ r a g
theorem e5E:c5L g0E:=by
 intro M h w v r a g
 cases v with
 |tuple vs=>
  obtain⟨rc,rfl,m⟩:=b3Q g;obtain⟨M',i,j,l,c4,p⟩:=a1V b0K vs M h w rc a m;exact⟨M',i,j,dT l,rfl⟩
 |_=>exact b0K M h w _ r a g
theorem c5N{E:Env}{f:FuncId}{ts:List TypeId}{vs:List IV}{rs:List Value}(h:cW M vs rs):cW M (yN E f ts vs) rs:=by
 unfold yN
 split
 ·exact wC h
 ·exact h
theorem c0C(E:Env)(f:FuncId){v:IV}{r:Value}(a:Inv M h w)(g:VR M v r): ∃M',Inv M' (jG E f v h).2 w/\Pres w.heap.size M h w M' (jG E f v h).2 w/\VR M' (jG E f v h).1 r:=by
 unfold jG
 split
 ·obtain⟨M',h1,h2,h3,_⟩:=e5E M h w v r a g;exact⟨M',h1,h2,h3⟩
 ·exact⟨M,a,Pres.refl _ _ _ _,g⟩
end
section
variable {E:Env} {M:Meta} {w:World} {f:FuncId} {o:Oper} {ev:Operand->Option TV} {ρ:Operand->Value} {pb:Nat->Nat}
def f1O(E:Env)(M:Meta)(w:World)(o:Oper)(ρ:Operand->Value)(pb:Nat->Nat)(tv:TV)(bx:Option (List IV)):Prop:=
 (bx=none/\∃r,(execOp ρ o).run E.P w= .ok (.value r) w/\TR M pb tv r) \/
 (∃cs d rc el,bx=some cs/\o.dst=some d/\tv= .l d 0/\(execOp ρ o).run E.P w= .ok (.value (.pointer (some ⟨w.heap.size,0,none⟩))) (w.alloc (.cells rc el))/\eB M cs rc.toList) \/
 (bx=none/\∀h,Inv M h w-> ∃w' M' x r,tv= .v x/\(execOp ρ o).run E.P w= .ok (.value r) w'/\VR M' x r/\Inv M' h w'/\Pres w.heap.size M h w M' h w')
theorem f1O.val{x:IV}{r:Value}(h:(execOp ρ o).run E.P w= .ok (.value r) w)(g:VR M x r):f1O E M w o ρ pb (.v x) none:= .inl ⟨rfl,r,h,g⟩
theorem e4U(b3: ∀b o u,M.im b o=some u->w.cell? ⟨b,o,none⟩=some u)(hev: ∀x tv,ev x=some tv->TR M pb tv (ρ x)){tv:TV}{bx:Option (List IV)}
  (h:eN E f o ev=some (tv,bx)):f1O E M w o ρ pb tv bx:=by
 unfold eN at h
 cases hop:o.op with
 |move x=>
  simp only [hop]at h;split at h
  ·cases h
  obtain⟨a,h1,h2⟩:=h0W.1 h;simp at h2;obtain⟨rfl,rfl⟩:=h2;exact .inl ⟨rfl,ρ x,by simp [execOp,hop],hev _ _ h1⟩
 |assign x=>
  simp only [hop]at h;obtain⟨a,h1,h2⟩:=h0W.1 h;simp at h2;obtain⟨rfl,rfl⟩:=h2;exact .inl ⟨rfl,ρ x,by simp [execOp,hop],hev _ _ h1⟩
 |pick c a b=>
  simp only [hop]at h;split at h
  ·rename_i X;obtain⟨q,h1,h2⟩:=h0W.1 h;simp at h2;obtain⟨rfl,rfl⟩:=h2;have a2:VR M (.bool true) (ρ c):=hev _ _ X;generalize hρ:ρ c=rcv at a2
   cases a2
   exact .inl ⟨rfl,ρ a,by simp [execOp,hop,hρ,asBool],hev _ _ h1⟩
  ·rename_i X;obtain⟨q,h1,h2⟩:=h0W.1 h;simp at h2;obtain⟨rfl,rfl⟩:=h2;have a2:VR M (.bool false) (ρ c):=hev _ _ X;generalize hρ:ρ c=rcv at a2
   cases a2
   exact .inl ⟨rfl,ρ b,by simp [execOp,hop,hρ,asBool],hev _ _ h1⟩
  ·simp at h
 |alloc t=>
  simp only [hop]at h;split at h
  case h_2=>simp at h
  rename_i d hd;split at h
  case isFalse=>simp at h
  obtain⟨z,h1,h2⟩:=h0W.1 h;simp at h2;obtain⟨rfl,rfl⟩:=h2;obtain⟨i,r,h3,h4,h5,h6⟩:=eG (M:=M) h1;refine .inr (.inl ⟨_,d,r.cells,t,rfl,hd,rfl,?_,jI h5 h6⟩);simp only [execOp,hop];refine cD _ _ ?_;simp only [Instr.alloc,h1K,cJ w h3 h4,h1F,newVar,Go.newRow,run_newObj,h1R];rfl
 |box t x=>
  simp only [hop]at h;split at h
  case h_2=>simp at h
  rename_i d v hd hv;split at h
  case isFalse=>simp at h
  rename_i X;simp at h;obtain⟨rfl,rfl⟩:=h;refine .inr (.inl ⟨_,d,(ρ x).cells,t,rfl,hd,rfl,?_,jI (bK hev hv) X.2⟩);simp only [execOp,hop];refine cD _ _ ?_;simp only [Instr.box,newVar,Go.newRow,h1K,run_newObj,h1F,h1R];rfl
 |build t parts=>
  simp only [hop]at h;split at h
  case h_2=>simp at h
  rename_i z ps hz hp;have a4:PR M ps (parts.map fun(i,x)=>(i,ρ x)).toList:=by
   have:=wH (M:=M) hev hp;simpa using this
  split at h
  ·rename_i fs l;split at h
   case isFalse=>simp at h
   rename_i m;obtain⟨cs,h1,h2⟩:=h0W.1 h;simp at h2;obtain⟨rfl,rfl⟩:=h2;obtain⟨r,h3,h4⟩:=b3W (P:=E.P) w hz a4 (.inl ⟨fs,l,m,h1⟩);exact .val (by simp only [execOp,hop];exact cD _ _ h3) h4
  ·rename_i n e l;split at h
   case h_2=>simp at h
   rename_i sz hs;obtain⟨cs,h1,h2⟩:=h0W.1 h;simp at h2;obtain⟨rfl,rfl⟩:=h2;obtain⟨r,h3,h4⟩:=b3W (P:=E.P) w hz a4 (.inr ⟨n,e,sz,l,hs,h1⟩);exact .val (by simp only [execOp,hop];exact cD _ _ h3) h4
  ·simp at h
 |buildSlice t n parts=>
  simp only [hop]at h;split at h
  case h_2=>simp at h
  rename_i e d l hd;split at h
  case isFalse=>simp at h
  split at h
  case h_2=>simp at h
  rename_i sz z ps b4 hz hp;split at h
  case isFalse=>simp at h
  rename_i a1;obtain⟨cs,h1,h2⟩:=h0W.1 h;simp at h2;obtain⟨rfl,rfl⟩:=h2;have a4:PR M ps (parts.map fun(i,x)=>(i,ρ x)).toList:=by
   have:=wH (M:=M) hev hp;simpa using this
  obtain⟨ro,r1,r2,r3⟩:=rL (P:=E.P) (M:=M) w l b4 hz a1.1 a1.2 a4 h1;have c1:eB M (match E.nf f with|true=>nY (rep n (uC E.P 8 e)) cs|false=>cs) ro.toList:=by
   split
   ·exact b3S r2
   ·exact r2
  have b7:(match E.nf f with|true=>nY (rep n (uC E.P 8 e)) cs|false=>cs).length=n*(sz+1):=by
   split
   ·rw [b3R];exact r3
   ·exact r3
  refine .inr (.inr ⟨rfl,fun h hI=>?_⟩);obtain⟨M',q1,q2,q3⟩:=e4O hI (NewBlk.alloc w (.cells ro e)) b7 (by omega) c1;exact⟨_,M',_,_,rfl,by simp only [execOp,hop];exact cD _ _ r1,q3,q1,q2⟩
 |load t a=>
  simp only [hop]at h;split at h
  case h_2=>simp at h
  rename_i cs D m;obtain⟨v,h1,h2⟩:=h0W.1 h;simp at h2;obtain⟨rfl,rfl⟩:=h2;have j:VR M (.vref cs D) (ρ a):=hev _ _ m;generalize hρ:ρ a=ra at j
  cases j with
  | @vref _ _ b base rv him' hv X=>
   have b9:eB M cs ((List.range cs.length).map rv):=⟨⟨by simp,fun i p q=>by simpa using hv i p⟩,X⟩;obtain⟨r,h3,h4⟩:=wD (P:=E.P) (w:=w) (b:=b) (base:=base) b9 (fun i T=>by simp at T;simpa using b3 _ _ _ (him' i T)) h1;exact .val (by simp only [execOp,hop,hρ,Instr.loadAt,Instr.sureAddr];exact cD _ _ (by simpa using h3)) h4
 |nilCheck x=>
  simp only [hop]at h;split at h
  ·rename_i s D V;simp at h;obtain⟨rfl,rfl⟩:=h;have:ρ x= .pointer (some ⟨pb s,D,none⟩):=hev _ _ V;exact .inl ⟨rfl,_,by simp [execOp,hop,this],rfl⟩
  ·rename_i id D V;simp at h;obtain⟨rfl,rfl⟩:=h;have j:VR M (.ptr id D) (ρ x):=hev _ _ V;generalize hρ:ρ x=ra at j;have K:=j
   cases j
   exact .val (by simp [execOp,hop,hρ]) K
  ·rename_i cs D V;simp at h;obtain⟨rfl,rfl⟩:=h;have j:VR M (.vref cs D) (ρ x):=hev _ _ V;generalize hρ:ρ x=ra at j;have K:=j
   cases j
   exact .val (by simp [execOp,hop,hρ]) K
  ·rename_i g a b V;simp at h;obtain⟨rfl,rfl⟩:=h;have j:VR M (.func (.func g) a b) (ρ x):=hev _ _ V;generalize hρ:ρ x=ra at j;have K:=j
   cases j
   exact .val (by simp [execOp,hop,hρ]) K
  ·rename_i t v V;simp at h;obtain⟨rfl,rfl⟩:=h;have j:VR M (.iface t v) (ρ x):=hev _ _ V;generalize hρ:ρ x=ra at j;have K:=j
   cases j
   exact .val (by simp [execOp,hop,hρ]) K
  ·simp at h
 |binOp op t x y u=>
  simp only [hop]at h;split at h
  case h_2=>simp at h
  rename_i a b m hb;obtain⟨v,h1,h2⟩:=h0W.1 h;simp at h2;obtain⟨rfl,rfl⟩:=h2;obtain⟨r,h3,h4⟩:=d3E (P:=E.P) w x y rfl (bK hev m) (bK hev hb) h1;exact .val (by simp only [execOp,hop];exact cD _ _ h3) h4
 |unOp op t x=>
  simp only [hop]at h;split at h
  case h_2=>simp at h
  rename_i a m;obtain⟨v,h1,h2⟩:=h0W.1 h;simp at h2;obtain⟨rfl,rfl⟩:=h2;obtain⟨r,h3,h4⟩:=e4M (P:=E.P) w (bK hev m) h1;exact .val (by simp only [execOp,hop];exact cD _ _ h3) h4
 |convert s d x=>
  simp only [hop]at h;split at h
  case h_2=>simp at h
  rename_i a m;obtain⟨v,h1,h2⟩:=h0W.1 h;simp at h2;obtain⟨rfl,rfl⟩:=h2;obtain⟨r,h3,h4⟩:=c9Q (P:=E.P) w b3 (bK hev m) h1;exact .val (by simp only [execOp,hop];exact cD _ _ h3) h4
 |makeInterface t x=>
  simp only [hop]at h;split at h
  case h_2=>simp at h
  rename_i a T m;simp at h;obtain⟨rfl,rfl⟩:=h;obtain⟨d,l,hd⟩:=oC T;refine .val (r:= .iface t (ρ x)) ?_ (.iface (bK hev m));simp only [execOp,hop];refine cD _ _ ?_
  cases d<;>first| (exact absurd (hd.1 ⟨_,rfl⟩) (by simp))|simp [Instr.makeInterface,run_underlying l]
 |makeFunc fn a b=>
  simp only [hop]at h;split at h
  case h_2=>simp at h
  rename_i xs ys V hy;simp at h;obtain⟨rfl,rfl⟩:=h;refine .val (r:= .func fn (a.map ρ) (b.map ρ)) (by simp only [execOp,hop];exact cD _ _ (by simp [Instr.makeFunc])) ?_;have h1:=mG hev V;have h2:=mG hev hy;have:=a2G (fn:=fn) h1 h2;have e: ∀a:Array Operand,(a.toList.map ρ).toArray=a.map ρ:=fun a=>by apply h4V;simp
  rwa [e,e]at this
 |slice t x lo T mx=>
  simp only [hop]at h;split at h
  case h_2=>simp at h
  rename_i a m;obtain⟨v,h1,h2⟩:=h0W.1 h;simp at h2;obtain⟨rfl,rfl⟩:=h2;obtain⟨r,h3,h4⟩:=b9V (P:=E.P) w (bK hev m) (wI hev lo) (wI hev T) h1;exact .val (by simp only [execOp,hop];exact cD _ _ h3) h4
 |fieldAddr t x i=>
  simp only [hop]at h;split at h
  case h_2=>simp at h
  rename_i ft D a hf m;split at h
  case h_2=>simp at h
  rename_i n hn;obtain⟨v,h1,h2⟩:=h0W.1 h;simp at h2;obtain⟨rfl,rfl⟩:=h2;obtain⟨fs,fx,l,a8,rfl,rfl⟩:=wJ hf;obtain⟨ii,L,O⟩:=dK hn;obtain⟨ad,he,ht⟩:=a0J h1 (hev _ _ m);refine .inl ⟨rfl,_,?_,ht⟩;simp only [execOp,hop];refine cD _ _ ?_;simp [Instr.fieldAt,run_underlying l,a8,he,Instr.sureAddr,fieldPlace,cG L,O]
 |field t x i=>
  simp only [hop]at h;split at h
  case h_2=>simp at h
  rename_i ft D cs hf m;obtain⟨v,h1,h2⟩:=h0W.1 h;simp at h2;obtain⟨rfl,rfl⟩:=h2;obtain⟨fs,fx,l,a8,rfl,rfl⟩:=wJ hf;obtain⟨rc,hr,X⟩:=yO (bK hev m);obtain⟨r,h3,h4⟩:=c5C (P:=E.P) (w:=w) X h1;refine .val ?_ h4;simp only [execOp,hop];refine cD _ _ ?_;simp [Instr.field,run_underlying l,a8,hr,asAgg,h3]
 |indexAddr t x ix=>
  simp only [hop]at h;split at h
  ·rename_i i n e T l;obtain⟨k,hk⟩:=pT T;have G:VR M (.int k i) (ρ ix):=hev _ _ hk;generalize hρi:ρ ix=ri at G
   cases G
   split at h
   case h_2=>simp at h
   rename_i sz a hs m;split at h
   case isFalse=>simp at h
   rename_i hb;obtain⟨v,h1,h2⟩:=h0W.1 h;simp at h2;obtain⟨rfl,rfl⟩:=h2;obtain⟨ii,L,O⟩:=dK hs;obtain⟨ad,he,ht⟩:=a0J h1 (hev _ _ m);refine .inl ⟨rfl,_,?_,ht⟩;simp only [execOp,hop];refine cD _ _ ?_;simp [Instr.indexAt,run_underlying l,hρi,asIntOf,he,Instr.sureAddr,hb,cG L,O]
  ·rename_i i e T l;obtain⟨k,hk⟩:=pT T;have G:VR M (.int k i) (ρ ix):=hev _ _ hk;generalize hρi:ρ ix=ri at G
   cases G
   split at h
   ·rename_i sz b6 e' len z cs hs m;split at h
    case isFalse=>simp at h
    rename_i hb;obtain⟨b1,b2,rfl⟩:=hb;simp at h;obtain⟨rfl,rfl⟩:=h;obtain⟨ii,L,O⟩:=dK hs;have j:=bK hev m;generalize hρ:ρ x=ra at j
    cases j with
    |vnil=>omega
    | @vslice _ _ _ _ cap _ a rv hn hlen ha' him' hv X ht hf=>
     have b0:=ha'.resolve_left (by omega);obtain⟨ab,ao,c3⟩:=a;obtain⟨a6,c2⟩:=b0;simp only at a6;subst a6;refine .inl ⟨rfl,.pointer (some ⟨ab,ao+i.toNat*z,none⟩),?_,VR.vref rv him' hv X⟩;simp only [execOp,hop];refine cD _ _ ?_;simp [Instr.indexAt,run_underlying l,hρi,hρ,asIntOf,b1,b2,cG L,O,dA]
   ·rename_i sz b6 D len z hs m;split at h
    case isFalse=>simp at h
    rename_i hb;obtain⟨b1,b2,rfl⟩:=hb;simp at h;obtain⟨rfl,rfl⟩:=h;obtain⟨ii,L,O⟩:=dK hs;have j:=bK hev m;generalize hρ:ρ x=ra at j
    cases j with
    | @hslice _ _ _ _ cap b a hl ha' hlen=>
     obtain⟨rfl,b0⟩:=ha'.resolve_left (by omega);refine .inl ⟨rfl,.pointer (some ⟨b,D+i.toNat*z,none⟩),?_,VR.ptr hl⟩;simp only [execOp,hop];refine cD _ _ ?_;simp [Instr.indexAt,run_underlying l,hρi,hρ,asIntOf,b1,b2,cG L,O,dA]
   ·simp at h
  ·simp at h
 |index t x ix=>
  simp only [hop]at h;split at h
  ·rename_i i n e cs T l m;obtain⟨k,hk⟩:=pT T;have G:VR M (.int k i) (ρ ix):=hev _ _ hk;generalize hρi:ρ ix=ri at G
   cases G
   split at h
   case h_2=>simp at h
   rename_i sz hs;split at h
   case isFalse=>simp at h
   rename_i hb;obtain⟨v,h1,h2⟩:=h0W.1 h;simp at h2;obtain⟨rfl,rfl⟩:=h2;obtain⟨ii,L,O⟩:=dK hs;obtain⟨rc,hr,X⟩:=yO (bK hev m);obtain⟨r,h3,h4⟩:=c5C (P:=E.P) (w:=w) X h1;refine .val ?_ h4;simp only [execOp,hop];refine cD _ _ ?_;simp [Instr.index,run_underlying l,hρi,hr,asIntOf,hb,cG L,O,h3]
  ·rename_i i s T l m;obtain⟨k,hk⟩:=pT T;have G:VR M (.int k i) (ρ ix):=hev _ _ hk;generalize hρi:ρ ix=ri at G
   cases G
   split at h
   case isFalse=>simp at h
   rename_i hb;obtain⟨v,h1,h2⟩:=h0W.1 h;simp at h2;obtain⟨rfl,rfl⟩:=h2;have j:=bK hev m;generalize hρ:ρ x=ra at j
   cases j with
   |str b=>
    refine .val (r:= .int .u8 v.toNat) ?_ (.int _ _);simp only [execOp,hop];refine cD _ _ ?_;have b5:b[i.toNat]?=some v:=by
     have:i.toNat<b.size:=by
      have:=h2B.1 h1;simpa using this.1
     rw [getElem?_pos b i.toNat this];have h2:=h1;rw [h0U (by simpa using this)]at h2;simpa [ByteArray.getElem_eq_getElem_data]using h2
    simp [Instr.index,run_underlying l,hρi,hρ,asIntOf,hb,b5]
  ·simp at h
 |extract x i=>
  simp only [hop]at h;split at h
  case h_2=>simp at h
  rename_i vs m;obtain⟨v,h1,h2⟩:=h0W.1 h;simp at h2;obtain⟨rfl,rfl⟩:=h2;obtain⟨rc,hr,X⟩:=b3Q (bK hev m);obtain⟨r,h3,h4⟩:=X.get h1;refine .val ?_ h4;simp only [execOp,hop];refine cD _ _ ?_;simp [Instr.extract,hr,h3]
 |typeAssert x s t ok=>
  simp only [hop]at h;split at h
  ·rename_i u v T m;obtain⟨d,l,hd⟩:=oC T;have j:=bK hev m;generalize hρ:ρ x=ra at j
   cases j with
   | @iface _ _ rv hv=>
    have a0: ∀ms,d≠ .interface ms:=fun ms e=>absurd (hd.1 ⟨ms,e⟩) (by simp)
    split at h
    ·rename_i a9;subst a9;split at h
     ·rename_i Y;simp at h;obtain⟨rfl,rfl⟩:=h;refine .val (r:= .tuple #[rv,.bool true]) ?_ (by simpa using dT (cW.cons hv (cW.cons (.bool true) (cW.nil M))));simp only [execOp,hop];refine cD _ _ ?_
      cases d<;>first| (exact absurd rfl (a0 _))|simp [Instr.typeAssert,run_underlying l,hρ,Y]
     ·rename_i Y;simp at h;obtain⟨rfl,rfl⟩:=h;refine .val (r:=rv) ?_ hv;simp only [execOp,hop];refine cD _ _ ?_
      cases d<;>first| (exact absurd rfl (a0 _))|simp [Instr.typeAssert,run_underlying l,hρ,Y]
    ·rename_i a9;split at h
     case isFalse=>simp at h
     rename_i Y;obtain⟨z,h1,h2⟩:=h0W.1 h;simp at h2;obtain⟨rfl,rfl⟩:=h2;obtain⟨i,r,h3,h4,h5,h6⟩:=eG (M:=M) h1;refine .val (r:= .tuple #[r,.bool false]) ?_ (by simpa using dT (cW.cons h5 (cW.cons (.bool false) (cW.nil M))));simp only [execOp,hop];refine cD _ _ ?_
     cases d<;>first| (exact absurd rfl (a0 _))|simp [Instr.typeAssert,run_underlying l,hρ,Y,a9,cJ w h3 h4]
  ·rename_i T m;obtain⟨d,l,hd⟩:=oC T;have a0: ∀ms,d≠ .interface ms:=fun ms e=>absurd (hd.1 ⟨ms,e⟩) (by simp)
   have j:=bK hev m;generalize hρ:ρ x=ra at j
   cases j
   split at h
   case isFalse=>simp at h
   rename_i Y;obtain⟨z,h1,h2⟩:=h0W.1 h;simp at h2;obtain⟨rfl,rfl⟩:=h2;obtain⟨i,r,h3,h4,h5,h6⟩:=eG (M:=M) h1;refine .val (r:= .tuple #[r,.bool false]) ?_ (by simpa using dT (cW.cons h5 (cW.cons (.bool false) (cW.nil M))));simp only [execOp,hop];refine cD _ _ ?_
   cases d<;>first| (exact absurd rfl (a0 _))|simp [Instr.typeAssert,run_underlying l,hρ,Y,cJ w h3 h4]
  ·simp at h
 |call c=>
  obtain⟨a3,a5,Z⟩:=c;simp only [hop]at h
  cases a3 with
  |value x=>simp at h
  |invoke x n=>simp at h
  |builtin b=>
   cases b
   case len=>
    simp only at h;split at h
    case h_2=>simp at h
    rename_i t x ht V;obtain⟨y,hy,b8⟩:=h2W.1 V;have j:=bK hev b8;have h0:(a5.map ρ)[0]?=some (ρ y):=by simp [hy]
    have A: ∀r,(Builtin.len_ Z o.type (a5.map ρ)).run E.P w= .ok r w->(execOp ρ o).run E.P w= .ok (.value r) w:=by
     intro r hr;simp only [execOp,hop,resolve,invoke,h1K,h1R,h1F,builtin,hr]
    generalize hρ:ρ y=ra at j h0;split at h
    ·rename_i s l;simp at h;obtain⟨rfl,rfl⟩:=h
     cases j
     refine .val (A _ (by simp [Builtin.len_,ht,hy,hρ,run_underlying l];rfl)) ?_;simpa [goInt]using VR.int (M:=M) _ _
    ·rename_i e l;simp at h;obtain⟨rfl,rfl⟩:=h
     cases j
     exact .val (A _ (by simp [Builtin.len_,ht,hy,hρ,run_underlying l];rfl)) (.int _ _)
    ·rename_i e i1 i2 len i3 l;simp at h;obtain⟨rfl,rfl⟩:=h;obtain⟨a,cap,rfl,_⟩:=pV j;exact .val (A _ (by simp [Builtin.len_,ht,hy,hρ,run_underlying l];rfl)) (.int _ _)
    ·rename_i e i1 i2 len i3 i4 l;simp at h;obtain⟨rfl,rfl⟩:=h;obtain⟨a,cap,rfl,_⟩:=pU j;exact .val (A _ (by simp [Builtin.len_,ht,hy,hρ,run_underlying l];rfl)) (.int _ _)
    ·rename_i k e l;simp at h;obtain⟨rfl,rfl⟩:=h
     cases j
     exact .val (A _ (by simp [Builtin.len_,ht,hy,hρ,run_underlying l];rfl)) (.int _ _)
    ·rename_i n e l;simp at h;obtain⟨rfl,rfl⟩:=h;exact .val (A _ (by simp [Builtin.len_,ht,hy,run_underlying l];rfl)) (.int _ _)
    ·simp at h
   case min=>
    simp only at h;split at h
    case h_2=>simp at h
    rename_i x r V;obtain⟨v,h1,h2⟩:=h0W.1 h;simp at h2;obtain⟨rfl,rfl⟩:=h2;obtain⟨q,c0,a7,v1,v2⟩:=(mG hev V).uncons;obtain⟨s,h3,h4⟩:=b3X (P:=E.P) w v1 v2 h1;refine .val (r:=s) ?_ h4;simp only [execOp,hop,resolve,invoke,h1K,h1R,h1F,builtin,Builtin.min_,h7S,a7,h3]
   case max=>
    simp only at h;split at h
    case h_2=>simp at h
    rename_i x r V;obtain⟨v,h1,h2⟩:=h0W.1 h;simp at h2;obtain⟨rfl,rfl⟩:=h2;obtain⟨q,c0,a7,v1,v2⟩:=(mG hev V).uncons;obtain⟨s,h3,h4⟩:=b3Y (P:=E.P) w v1 v2 h1;refine .val (r:=s) ?_ h4;simp only [execOp,hop,resolve,invoke,h1K,h1R,h1F,builtin,Builtin.max_,h7S,a7,h3]
   all_goals simp at h
 |_=>simp [hop]at h
end
section
variable {P:Program} {M:Meta} {h:Heap} {w:World}
theorem b3Z{t l ty e:TypeId}{i:TypeInfo}(p:P.underlying t=some (.slice e))(m:P.info? e=some i){base:Option Addr}{len cap:Nat}{r:Value}(g:Src P i.size l r 0 [] w)(j:len<=cap):
  (Builtin.append_ #[t,l] ty #[.slice base len cap,r]).run P w= .ok (.slice base len cap) w:=by
 rcases g.kind with⟨e',hk⟩|hk<;>cases base<;>simp [Builtin.append_,run_underlying p,run_underlying hk,sizeOf,typeInfo,m,g.len,j,g.cells,storeCells]
theorem d3H(l:List Value)(o:Nat)(c:List Value)(k:Nat)(g:k=o+c.length)(i:o<=l.length):(oB l o c).take k=l.take o++c:=by
 subst g;unfold oB
 rw [h2Y (by simp;omega)];rw [h1H (by simp;omega)]
theorem c9S(a:Inv M h w){b5 sz A:Nat}{t tx ty e:TypeId}{i:TypeInfo}{z:Value}{du:TypeDesc}{s x v:IV}{rs rx:Value}{h':Heap}(ht:P.underlying t=some (.slice e))(hi:P.info? e=some i)(D:i.size=sz+1)(b3:i.bytes=A+1)
  (hz:i.zero=some z) (hzl:z.cells.size=sz+1) (hu:P.underlying tx=some du) (hk:lX du=true) (hs:VR M s rs) (hx:VR M x rx) (happ:kP h b5 (sz+1) (A+1) s x=some (v,h')):
  ∃r w' M',(Builtin.append_ #[t,tx] ty #[rs,rx]).run P w= .ok r w'/\VR M' v r/\Inv M' h' w'/\Pres w.heap.size M h w M' h' w':=by
 unfold kP at happ
 cases hsrc:fO h (sz+1) x with
 |none=>simp [hsrc]at happ
 |some q=>
  obtain⟨n,xs⟩:=q;simp only [hsrc]at happ;obtain⟨g,hc,hS⟩:=c5E (P:=P) a hu hk hx hsrc;have c1:xs.length=n*(sz+1):=(b0G (P:=P) a hx hsrc).1;have u:g.length=n*(sz+1):=by rw [<-hc.len,c1]
  rw [<-D]at hS;have T: ∀m,(Builtin.zeroCells z.cells m).size=m*(sz+1):=fun m=>by rw [size_zeroCells,hzl]
  split at happ
  ·
   rename_i c3;subst c3;have b9:g=[]:=by simpa using u
   subst b9;have fin:v=s->h'=h-> ∀base len cap,rs= .slice base len cap->len<=cap-> ∃r w' M',(Builtin.append_ #[t,tx] ty #[rs,rx]).run P w= .ok r w'/\VR M' v r/\Inv M' h' w'/\Pres w.heap.size M h w M' h' w':=by
    intro e1 e2 base len cap e3 a8;subst e1;subst e2;subst e3;exact⟨_,w,M,b3Z ht hi hS a8,hs,a,Pres.refl _ _ _ _⟩
   split at happ
   ·simp at happ
    cases hs
    exact fin happ.1.symm happ.2.symm _ _ _ rfl (h1D _)
   ·split at happ
    case isFalse=>simp at happ
    simp at happ;obtain⟨ad,cap,e3,a8,_⟩:=pU hs;exact fin happ.1.symm happ.2.symm _ _ _ e3 a8
   ·split at happ
    case isFalse=>simp at happ
    simp at happ;obtain⟨ad,cap,e3,a8⟩:=pV hs;exact fin happ.1.symm happ.2.symm _ _ _ e3 a8
   ·simp at happ
  ·rename_i c3;have hn:0<n:=by omega
   split at happ
   ·
    split at happ
    case isFalse=>simp at happ
    rename_i hb;simp only [h0V]at happ
    cases hs
    have K:Builtin.nextslicecap (0+n) 0*i.bytes<=281474976710656:=growslice_fits (by omega) (by rw [b3];simpa using hb);have a4:((0+n:Nat):Int)<=9223372036854775807:=by
     have:n*1<=n*(A+1):=h5A _ (by omega);omega
    have l:=run_append_grow_src (P:=P) w t tx ty e i z ht hi hz none 0 0 [] (run_firstCells_none w.drew i.size 0 0 0) rx n g hS (by omega) a4 K;simp only [h3U,h1Q]at l;have V:=grownCap_ge w n 0 e;have c6:grownCap w n 0 e*(sz+1)<=(g.toArray++Builtin.zeroCells z.cells (grownCap w n 0 e-n)).size:=by
     simp only [h5H,h4B,u,T];rw [<-Nat.add_mul];exact h2Q _ (by omega)
    obtain⟨M',r1,r2,r3⟩:=oO a b5 (fz:=(0,0)) (rM w _) (.inl (h1D _)) c1 V c6 (by
     rw [c1,<-u];simpa using hc)
    rw [happ]at r1 r2 r3;exact⟨_,_,M',l,r3,r1,r2⟩
   ·
    rename_i len z' cs;split at happ
    case isFalse=>simp at happ
    rename_i L;obtain⟨rfl,hb⟩:=L;simp only [h0V]at happ;have b4:(len+n)*(sz+1)=len*(sz+1)+n*(sz+1):=Nat.add_mul _ _ _
    cases hs with
    | @vslice _ _ _ _ cap _ ad rv a1 hlen had him hv hcc htp hfl=>
     have b6:cap=len:=by
      rcases hfl rfl with h0| ⟨_,h0,_⟩
      ·simp at h0
      ·exact h0
     subst b6;have K:Builtin.nextslicecap (cap+n) cap*i.bytes<=281474976710656:=growslice_fits (by omega) (by rw [b3];exact hb);have a4:((cap+n:Nat):Int)<=9223372036854775807:=by
      have:(cap+n)*1<=(cap+n)*(A+1):=h5A _ (by omega);omega
     have c0:eB M cs ((List.range cs.length).map rv):=⟨⟨by simp,fun i p q=>by simpa using hv i p⟩,hcc⟩;have Y:((List.range cs.length).map rv).length=cap*i.size:=by rw [D];simp;omega
     have a0: ∀j v,((List.range cs.length).map rv)[j]?=some v->w.drew.cell? (ad.add j)=some v:=by
      intro j v G;obtain⟨h1,h2⟩:=h2B.1 G;simp at h1 h2;have b1:cap≠0:=by
       intro e;subst e;simp at a1;rw [a1]at h1;simp at h1
      obtain⟨a3,_⟩:=had.resolve_left b1;obtain⟨ab,ao,c2⟩:=ad;simp only at a3;subst a3;rw [dA,<-h2];exact a.im _ _ _ (him j h1)
     have l:=run_append_grow_src (P:=P) w t tx ty e i z ht hi hz (some ad) cap cap _ (run_firstCells_some w.drew i.size cap ad cap cap _ Y a0) rx n g hS (by omega) a4 K;have V:=grownCap_ge w (cap+n) cap e;have a5:((((List.range cs.length).map rv)++g).toArray++Builtin.zeroCells z.cells (grownCap w (cap+n) cap e- (cap+n))).size=grownCap w (cap+n) cap e*(sz+1):=by
      have h2:(cap+n)*(sz+1)+(grownCap w (cap+n) cap e- (cap+n))*(sz+1)=grownCap w (cap+n) cap e*(sz+1):=by
       rw [<-Nat.add_mul];congr 1;omega
      simp only [h5H,h4B,h1E,Y,D,u,T];omega
     have O:=c0.append hc;obtain⟨M',r1,r2,r3⟩:=oO a b5 (fz:=(0,0)) (cs:=cs++xs) (len:=cap+n) (sz:=sz+1) (rM w _) (.inl (h1D _)) (by simp;omega) V (by rw [a5];exact h1D _) (by
      have e1:(cs++xs).length=(((List.range cs.length).map rv)++g).length:=O.len;rw [h7D,h2Y (by simpa using h6V e1),h1H (by simpa using h6V e1.symm)];exact O)
     rw [happ]at r1 r2 r3;exact⟨_,_,M',l,r3,r1,r2⟩
   ·
    rename_i id e' len z' cs;split at happ
    case h_2=>simp at happ
    rename_i m hg;split at happ
    case isFalse=>simp at happ
    rename_i L;obtain⟨rfl,rfl,hb⟩:=L;simp only [h0V,h2M]at happ;obtain⟨rfl,rfl⟩:=happ;obtain⟨t0,b,d1,rc,t1,t2,t3,t4⟩:=a.tips id m hg
    cases hs with
    | @vslice _ _ _ _ cap _ ad rv a1 hlen had him hv hcc htp hfl=>
     obtain⟨p1,p0,p2,p3⟩:=htp id rfl;have b4:(len+n)*(sz+1)=len*(sz+1)+n*(sz+1):=Nat.add_mul _ _ _;have c7:0<n*(sz+1):=h9A hn (by omega)
     by_cases hroom:len+n<=cap
     ·obtain⟨a3,n0,a2,b7⟩:=had.resolve_left (by omega);have a6:=(p3 t0.symm).resolve_left (by omega);obtain⟨ab,ao,c2⟩:=ad;simp only at a3 a2 b7 a6 him;subst a3;rw [t1]at a6;simp at a6;obtain⟨rfl,rfl⟩:=a6;rw [t2.bsz]at a2;simp at a2;subst a2;have c9:(len+n)*(sz+1)<=cap*(sz+1):=h2Q _ hroom;obtain⟨el,fz,a9⟩:=t2.at_;have l:=run_append_room_src (P:=P) w t tx ty e i ht hi b ao len cap rx n g hS hroom
       (by
        intro j G;rw [u]at G;rw [D];simp [World.cell?,a9,show ao+len*(sz+1)+j<rc.size by omega])
       (by
        intro j G;rw [u]at G;rw [D];exact t2.free _ (by omega))
      rw [D]at l;obtain⟨b8,s1,s2⟩:=iB b g (ao+len*(sz+1)) w rc el fz a9 (by rw [u];omega);have Z:b8.size=rc.size:=by
       have:=congrArg List.length s2;rw [nO _ _ _ (by rw [u];simp;omega)]at this;simpa using this
      have b2: ∀j,(w.setCells b (ao+len*(sz+1)) g).frozen? ⟨b,j,none⟩=w.frozen? ⟨b,j,none⟩:=fun j=>World.frozen?_setCells b _ _ _ _
      obtain⟨M',q1,q2,q3,q4,q5,q6,q7⟩:=d3G a (k:=n*(sz+1)) hg t1 t2 ⟨el,fz,s1⟩ (fun j G=>by rw [b2];exact t2.free j (by omega)) Z (by rw [a1];omega)
       (fun j G=>by
        rw [<-Array.getElem?_toList,<-Array.getElem?_toList,s2];unfold oB
        rw [h1Z (by simp;omega),h1Z (by simp;omega),h4H,if_pos (by omega)]) c7
       (fun k hk=>fB b _ _ _ k hk) (fS b _ _ _) (fT b _ _ _)
      refine⟨_,_,M',l,?_,q1,q2⟩;have hE:=q2.ext;refine .vslice ⟨b,ao,none⟩ (fun j=>if j<cs.length then rv j else g.getD (j-cs.length) undef) (by simp;omega) hroom (.inr ⟨rfl,rc.size,by rw [q6];exact t2.bsz,b7⟩) ?_ ?_ ?_ ?_ (by simp)
      ·intro j G;simp only [h1E]at G
       by_cases y:j<cs.length
       ·simp only [y,if_true];exact hE.im _ _ _ (him j y)
       ·simp only [y,if_false];have hq:=q7 (j-cs.length) (by omega);rw [show ao+cs.length+(j-cs.length)=ao+j by omega]at hq;rw [hq,<-Array.getElem?_toList,s2];unfold oB
        rw [h1Z (by simp;omega),h1V (by simp;omega)];simp only [h1Y,h4Z];rw [show ao+j-min (ao+len*(sz+1)) rc.size=j-cs.length by omega];rw [h0U (by omega)];simp [show j-cs.length<g.length by omega]
      ·intro j G;simp only [h1E]at G
       by_cases y:j<cs.length
       ·rw [h7T y];simp only [y,if_true];exact(hv j y).mono hE
       ·rw [h7P (by omega)];simp only [y,if_false];have:=(hc.1.2 (j-cs.length) (by omega) (by omega)).mono hE;simpa [show j-cs.length<g.length by omega]using this
      ·intro j G;rw [h8V];split
       ·exact hcc _ _
       ·exact hc.2 _ _
      ·intro k ek;simp at ek;subst ek;refine⟨by rw [q5];exact p1,by simp;omega,by rw [q3];exact h1D _,fun _=> .inr ?_⟩;rw [q4];simp;omega
     ·
      have K:Builtin.nextslicecap (len+n) cap*i.bytes<=281474976710656:=growslice_fits (by omega) (by rw [b3];exact hb);have a4:((len+n:Nat):Int)<=9223372036854775807:=by
       have:(len+n)*1<=(len+n)*(A+1):=h5A _ (by omega);omega
      have c0:eB M cs ((List.range cs.length).map rv):=⟨⟨by simp,fun i p q=>by simpa using hv i p⟩,hcc⟩;have Y:((List.range cs.length).map rv).length=len*i.size:=by rw [D];simp;omega
      have a0: ∀j v,((List.range cs.length).map rv)[j]?=some v->w.drew.cell? (ad.add j)=some v:=by
       intro j v G;obtain⟨h1,h2⟩:=h2B.1 G;simp at h1 h2;have b1:cap≠0:=by
        intro e;have:len=0:=by omega
        subst this;simp at a1;rw [a1]at h1;simp at h1
       obtain⟨a3,_⟩:=had.resolve_left b1;obtain⟨ab,ao,c2⟩:=ad;simp only at a3;subst a3;rw [dA,<-h2];exact a.im _ _ _ (him j h1)
      have l:=run_append_grow_src (P:=P) w t tx ty e i z ht hi hz (some ad) len cap _ (run_firstCells_some w.drew i.size len ad len cap _ Y a0) rx n g hS (by omega) a4 K;have V:=grownCap_ge w (len+n) cap e;have a5:((((List.range cs.length).map rv)++g).toArray++Builtin.zeroCells z.cells (grownCap w (len+n) cap e- (len+n))).size=grownCap w (len+n) cap e*(sz+1):=by
       have h2:(len+n)*(sz+1)+(grownCap w (len+n) cap e- (len+n))*(sz+1)=grownCap w (len+n) cap e*(sz+1):=by
        rw [<-Nat.add_mul];congr 1;omega
       simp only [h5H,h4B,h1E,Y,D,u,T];omega
      have a7:(len+n)*(sz+1)<=grownCap w (len+n) cap e*(sz+1):=h2Q _ V;obtain⟨M',q1,q2,q3,q4,q5,q6,q7⟩:=e4Q a (fz:=(0,0)) (k:=n*(sz+1)) (n:=(len+n)*(sz+1)) hg (rM w _) (.inl (h1D _)) (by rw [a5];exact a7) c7;refine⟨_,_,M',l,?_,q1,q2⟩;have hE:=q2.ext;have O:=(c0.append hc).mono hE;refine .vslice ⟨w.heap.size,0,none⟩ (fun j=>(((List.range cs.length).map rv)++g).getD j undef) (by simp;omega) V (.inr ⟨rfl,_,q6,by rw [a5];simp⟩) ?_ ?_ O.2 ?_ (by simp)
      ·intro j G;have c8:=G;simp only [h1E]at c8;have y:j< (((List.range cs.length).map rv)++g).length:=by rw [<-O.len];exact G
       simp only [h1Q];rw [q7 j (by omega),h7J (by simpa using y)];rw [h4I,h0U y];simp only [h1A];rw [h0U y];rfl
      ·intro j G;have y:j< (((List.range cs.length).map rv)++g).length:=by rw [<-O.len];exact G
       have:=O.1.2 j G y;simp only [h1A];rw [h0U y];exact this
      ·intro k ek;simp at ek;subst ek;refine⟨by rw [q5];exact p1,by simp;omega,by rw [q3];exact h1D _,fun _=> .inr ?_⟩;rw [q4];simp;omega
   ·
    rename_i id d2 len z';split at happ
    case h_2=>simp at happ
    rename_i cs hg;split at happ
    case isFalse=>simp at happ
    rename_i L;obtain⟨rfl,rfl,a1,hb⟩:=L;simp only [h0V,h2M]at happ;obtain⟨rfl,rfl⟩:=happ;obtain⟨b',rc,l1,l2,l3,l4,l5⟩:=a.row hg;have b4:(len+n)*(sz+1)=len*(sz+1)+n*(sz+1):=Nat.add_mul _ _ _;have b0:(cs.take (len*(sz+1))++xs).length=(len+n)*(sz+1):=by simp;omega
    have c5:eB M (cs.take (len*(sz+1))) (rc.toList.take (len*(sz+1))):=by
     have:=l4.take (len*(sz+1))
     rwa [h8K,h8F a1]at this
    cases hs with
    | @hslice _ _ _ _ cap b ad hl had hlen=>
     rw [hl]at l1;simp at l1;subst l1
     by_cases hroom:len+n<=cap
     ·obtain⟨rfl,n0,a2,b7⟩:=had.resolve_left (by omega);rw [l2.bsz]at a2;simp at a2;subst a2;have c9:(len+n)*(sz+1)<=cap*(sz+1):=h2Q _ hroom;obtain⟨el,fz,a9⟩:=l2.at_;have l:=run_append_room_src (P:=P) w t tx ty e i ht hi b 0 len cap rx n g hS hroom
       (by
        intro j G;rw [u]at G;rw [D];simp [World.cell?,a9,show len*(sz+1)+j<rc.size by omega])
       (by
        intro j G;rw [u]at G;rw [D];exact l2.free _ (by omega))
      rw [D]at l;obtain⟨b8,s1,s2⟩:=iB b g (0+len*(sz+1)) w rc el fz a9 (by rw [u];omega);have Z:b8.size=rc.size:=by
       have:=congrArg List.length s2;rw [nO _ _ _ (by rw [u];simp;omega)]at this;simpa using this
      have b2: ∀j,(w.setCells b (0+len*(sz+1)) g).frozen? ⟨b,j,none⟩=w.frozen? ⟨b,j,none⟩:=fun j=>World.frozen?_setCells b _ _ _ _
      obtain⟨M',q1,q2,q3,q4⟩:=b9X a (cs':=cs.take (len*(sz+1))++xs) hg hl (fun k hk=>fB b _ _ _ k hk) (fS b _ _ _) (fT b _ _ _)
       ⟨⟨el,fz,s1⟩,fun j G=>by rw [b2];exact l2.free j (by omega),by rw [Z];exact l2.bsz⟩ (by omega) (by
        rw [s2,b0,d3H _ _ _ _ (by rw [u];omega) (by simp;omega)];rw [h1Q];exact c5.append hc)
      exact⟨_,_,M',l,.hslice _ q3 (.inr ⟨rfl,_,q4,by rw [Z];omega⟩) hroom,q1,q2⟩
     ·have K:Builtin.nextslicecap (len+n) cap*i.bytes<=281474976710656:=growslice_fits (by omega) (by rw [b3];exact hb);have a4:((len+n:Nat):Int)<=9223372036854775807:=by
       have:(len+n)*1<=(len+n)*(A+1):=h5A _ (by omega);omega
      have Y:(rc.toList.take (len*(sz+1))).length=len*i.size:=by rw [D];simp;omega
      have a0: ∀j v,(rc.toList.take (len*(sz+1)))[j]?=some v->w.drew.cell? (ad.add j)=some v:=by
       intro j v G;obtain⟨h1,h2⟩:=h2B.1 G;have b1:cap≠0:=by
        intro e;have:len=0:=by omega
        subst this;rw [Y]at h1;simp at h1
       obtain⟨rfl,_⟩:=had.resolve_left b1;rw [dA];have d0:j< (rc.toList.take cs.length).length:=by simp at h1⊢;omega
       have:=l5 j d0;rw [<-h2];simpa using this
      have l:=run_append_grow_src (P:=P) w t tx ty e i z ht hi hz (some ad) len cap _ (run_firstCells_some w.drew i.size len ad len cap _ Y a0) rx n g hS (by omega) a4 K;have V:=grownCap_ge w (len+n) cap e;have a5:(((rc.toList.take (len*(sz+1)))++g).toArray++Builtin.zeroCells z.cells (grownCap w (len+n) cap e- (len+n))).size=grownCap w (len+n) cap e*(sz+1):=by
       have h2:(len+n)*(sz+1)+(grownCap w (len+n) cap e- (len+n))*(sz+1)=grownCap w (len+n) cap e*(sz+1):=by
        rw [<-Nat.add_mul];congr 1;omega
       simp only [h5H,h4B,h1E,Y,D,u,T];omega
      have a7:(len+n)*(sz+1)<=grownCap w (len+n) cap e*(sz+1):=h2Q _ V;have O:=c5.append hc;obtain⟨M',q1,q2,q3,q4⟩:=c9R a (fz:=(0,0)) (cs':=cs.take (len*(sz+1))++xs) hg (rM w _) (.inl (h1D _)) (by rw [a5,b0];exact a7) (by
       have e1:(cs.take (len*(sz+1))++xs).length=((rc.toList.take (len*(sz+1)))++g).length:=O.len;have e3: ∀X:List Value,X.toArray.toList.take X.length=X:=fun X=>by simp
       rw [h7D,h2Y (h6V e1),e1,e3];exact O)
      exact⟨_,_,M',l,.hslice _ q3 (.inr ⟨rfl,_,q4,by rw [a5];simp⟩) V,q1,q2⟩
   ·simp at happ
end
section
variable {M:Meta} {h:Heap} {w:World}
theorem b0H{d:TypeDesc}{k v:IV}{g rv:Value}(m:VR M k g)(G:VR M v rv): ∀{p es':List (IV×IV)}{ents:List MapEntry}(i:Nat),uF M p ents->oK d k v p=some es'->
  (∃j e u,ents[j]?=some e/\Instr.findNow d g ents i=some (some (i+j,u))/\e.key=g/\(∀n,Instr.sameBits n e.key g=true)/\uF M es' (ents.modify j fun e=> {e with key:=g,val:=rv })) \/
  (Instr.findNow d g ents i=some none/\es'=p++ [(k,v)])
 | [],es',ents,i,hm,h=>by
  have:ents=[]:=by have:=hm.len;simpa using this.symm
  subst this;simp [oK]at h;subst h;exact .inr ⟨rfl,rfl⟩
 | (x,y)::p,es',ents,i,hm,h=>by
  obtain⟨e,q,rfl,A,X,h2⟩:=hm.uncons;unfold oK at h;split at h
  ·rename_i z;simp at h;subst h;obtain⟨l,Z⟩:=jW z m A;obtain⟨_,V,T⟩:=Z rfl;refine .inl ⟨0,e,e.val,rfl,by simp [Instr.findNow,l],V.symm,T,?_⟩;exact uF.cons m G h2
  ·rename_i z;obtain⟨l,_⟩:=jW z m A;obtain⟨r,r1,O⟩:=h0W.1 h;subst O;rcases b0H m G (i+1) h2 r1 with⟨j,e',u,D,L,Y,p4,K⟩| ⟨D,rfl⟩
   ·refine .inl ⟨j+1,e',u,by simpa using D,?_,Y,p4,uF.cons A X K⟩;simp [Instr.findNow,l,L];omega
   ·refine .inr ⟨?_,rfl⟩;simp [Instr.findNow,l,D]
  ·simp at h
theorem c5F{d:TypeDesc}{k v:IV}{l rv:Value}(m:VR M k l)(D:VR M v rv): ∀{j es':List (IV×IV)}{ents:List MapEntry}(i:Nat){y:IV},uF M j ents->fU d k j=some (some y)->oK d k v j=some es'->
  ∃e u,ents[kO d k j]?=some e/\Instr.findNow d l ents i=some (some (i+kO d k j,u))/\VR M y u/\u=e.val/\e.key=l/\(∀n,Instr.sameBits n e.key l=true)/\uF M es' (ents.modify (kO d k j) fun e=> {e with key:=l,val:=rv })
 | [],es',ents,i,y,hm,hf,h=>by simp [fU]at hf
 | (x,z)::j,es',ents,i,y,hm,hf,h=>by
  obtain⟨e,q,rfl,p,G,h2⟩:=hm.uncons;unfold oK at h;unfold fU at hf;unfold kO
  split at h
  ·rename_i g;simp only [g,h0V]at hf h;subst h;subst hf;obtain⟨A,L⟩:=jW g m p;obtain⟨_,Z,s5⟩:=L rfl;simp only [g];exact⟨e,e.val,rfl,by simp [Instr.findNow,A],G,rfl,Z.symm,s5,uF.cons m D h2⟩
  ·rename_i g;simp only [g]at hf;obtain⟨A,_⟩:=jW g m p;obtain⟨r,r1,Y⟩:=h0W.1 h;subst Y;obtain⟨e',u,p1,X,p3,V,K,T,O⟩:=c5F m D (i+1) h2 hf r1;simp only [g];refine⟨e',u,by simpa using p1,?_,p3,V,K,T,uF.cons p G O⟩;simp [Instr.findNow,A,X];omega
  ·simp at h
theorem c9T{d:TypeDesc}{k:IV}{g:Value}(j:VR M k g){i:List (IV×IV)}{ents:List MapEntry}(l:uF M i ents)(m:fU d k i=some none):Instr.findNow d g ents 0=some none:=tD j 0 l m
theorem d3I{v:IV}{rv:Value}(l:VR M v rv): ∀{g:List (IV×IV)}{ents:List MapEntry}(n:Nat),uF M g ents->uF M (nN v n g) (ents.modify n fun e=> {e with val:=rv })
 | [],ents,n,hm=>by
  have:ents=[]:=by have:=hm.len;simpa using this.symm
  subst this;simpa [nN]using hm
 | (x,z)::g,ents,0,hm=>by
  obtain⟨e,q,rfl,i,j,h2⟩:=hm.uncons;exact uF.cons i l h2
 | (x,z)::g,ents,n+1,hm=>by
  obtain⟨e,q,rfl,i,j,h2⟩:=hm.uncons;exact uF.cons i j (d3I l n h2)
def b9Y(E:Env)(M:Meta)(h:Heap)(w:World)(o:Oper)(ρ:Operand->Value)(v:Option TV)(h':Heap):Prop:=
 ∃w' M',Inv M' h' w'/\Pres w.heap.size M h w M' h' w'/\
  ((∃x r,v=some (.v x)/\(execOp ρ o).run E.P w= .ok (.value r) w'/\VR M' x r) \/ (v=none/\(execOp ρ o).run E.P w= .ok .skip w'))
section
variable {E:Env} {f:FuncId} {o:Oper} {ev:Operand->Option TV} {ρ:Operand->Value} {pb:Nat->Nat}
theorem b9Z(w:World)(c:Array Value)(g:TypeId): ∃fz,NewBlk w (((w.drew.alloc (.cells c g))).freeze ⟨w.heap.size,c.size,none⟩ 1) (.cells c g fz)/\c.size<=fz.1:=by
 refine⟨(c.size,c.size+1),⟨?_,?_,?_,rfl,rfl,rfl⟩,h1D _⟩
 ·show((w.heap.push (.cells c g)).modify w.heap.size _)[w.heap.size]?=_;rw [h3W,if_pos rfl];simp
 ·intro b i;show((w.heap.push (.cells c g)).modify w.heap.size _)[b]?=_;rw [h3W,if_neg (by omega),h5V,if_neg (by omega)]
 ·show((w.heap.push (.cells c g)).modify w.heap.size _).size=_;simp
theorem c5G(a:Inv M h w)(hev: ∀x tv,ev x=some tv->TR M pb tv (ρ x)){v:Option TV}{h':Heap}(g:gV E f o ev h=some (v,h')):b9Y E M h w o ρ v h':=by
 unfold gV at g
 cases hop:o.op with
 |move x=>
  simp only [hop]at g;split at g
  case isFalse=>cases g
  split at g
  case h_2=>cases g
  rename_i id K len sz hx;split at g
  case h_2=>cases g
  rename_i cs hg;split at g
  case isFalse=>cases g
  rename_i hc;simp only [h0V,h2M]at g;obtain⟨rfl,rfl⟩:=g;obtain⟨M',h1,h2,h3⟩:=e5D a hg hc.1 hc.2 (bK hev hx);exact⟨w,M',h1,h2,.inl ⟨_,_,rfl,by simp [execOp,hop],h3⟩⟩
 |alloc t=>
  simp only [hop]at g;split at g
  case h_2=>simp at g
  split at g
  ·simp at g
  obtain⟨z,h1,h2⟩:=h0W.1 g;simp at h2;obtain⟨rfl,rfl⟩:=h2;obtain⟨i,r,h3,h4,h5,h6⟩:=eG (M:=M) h1;have hc:=jI h5 h6;have hl:(cellsOf z).length=r.cells.size:=by simpa using hc.len
  obtain⟨M',Z,q2,q3,q4⟩:=yR a (fz:=(0,0)) (cs:=cellsOf z) (NewBlk.alloc w (.cells r.cells t)) (.inl (h1D _)) (by omega) (by rw [h1H (by simp;omega)];exact hc);refine⟨_,M',Z,q2,.inl ⟨_,_,rfl,?_,.ptr q3⟩⟩;simp only [execOp,hop];refine cD _ _ ?_;simp only [Instr.alloc,h1K,cJ w h3 h4,h1F,newVar,Go.newRow,run_newObj,h1R];rfl
 |box t x=>
  simp only [hop]at g;split at g
  case h_2=>simp at g
  rename_i d v' hd hv;split at g
  ·simp at g
  split at g
  case isFalse=>simp at g
  rename_i g8;simp at g;obtain⟨rfl,rfl⟩:=g;have hc:=jI (bK hev hv) g8;have hl:(cellsOf v').length=(ρ x).cells.size:=by simpa using hc.len
  obtain⟨M',Z,q2,q3,q4⟩:=yR a (fz:=(0,0)) (cs:=cellsOf v') (NewBlk.alloc w (.cells (ρ x).cells t)) (.inl (h1D _)) (by omega) (by rw [h1H (by simp;omega)];exact hc);refine⟨_,M',Z,q2,.inl ⟨_,_,rfl,?_,.ptr q3⟩⟩;simp only [execOp,hop];refine cD _ _ ?_;simp only [Instr.box,newVar,Go.newRow,h1K,run_newObj,h1F,h1R];rfl
 |buildSlice t n parts=>
  simp only [hop]at g;split at g
  case h_2=>simp at g
  rename_i e d hu hd;split at g
  ·simp at g
  split at g
  case h_2=>simp at g
  rename_i sz z ps a7 hz hp;split at g
  case isFalse=>simp at g
  rename_i L;obtain⟨cs,h1,h2⟩:=h0W.1 g;simp at h2;obtain⟨rfl,rfl⟩:=h2;have i1:PR M ps (parts.map fun(i,x)=>(i,ρ x)).toList:=by
   have:=wH (M:=M) hev hp;simpa using this
  obtain⟨ro,r1,r2,r3⟩:=rL (P:=E.P) (M:=M) w hu a7 hz L.1 L.2 i1 h1;have j4:ro.size=n*(sz+1):=by have:=r2.len;simp at this;omega
  obtain⟨M',Z,q2,q3⟩:=oO a (E.A f d) (fz:=(0,0)) (NewBlk.alloc w (.cells ro e)) (.inl (h1D _)) r3 (h1D n) (by omega) (by rw [h1H (by simp;omega)];exact r2);exact⟨_,M',Z,q2,.inl ⟨_,_,rfl,by simp only [execOp,hop];exact cD _ _ r1,q3⟩⟩
 |makeSlice t lo co=>
  simp only [hop]at g;split at g
  case h_2=>simp at g
  rename_i e d l c hu hd hl hc;split at g
  case h_2=>simp at g
  rename_i sz T z a7 f0 hz;split at g
  case isFalse=>simp at g
  rename_i L;obtain⟨b1,b2,b3,b4,e9⟩:=L;simp only [h0V,h2M]at g;obtain⟨rfl,rfl⟩:=g;obtain⟨kl,h8⟩:=pT hl;obtain⟨kc,g7⟩:=pT hc;have vl:VR M (.int kl l) (ρ lo):=hev _ _ h8;have vc:VR M (.int kc c) (ρ co):=hev _ _ g7;generalize hρl:ρ lo=rl at vl;generalize hρc:ρ co=rc at vc
  cases vl
  cases vc
  obtain⟨i,Y,b7⟩:=dK a7;obtain⟨i',a9,d9⟩:=mA f0;rw [Y]at a9;simp at a9;subst a9;obtain⟨rz,d5,c6⟩:=mN (M:=M) hz Y;have d0:=wK c6 (by omega) l.toNat;have d8:=wK c6 (by omega) c.toNat;rw [e9]at d0 d8;have e8:l.toNat<=c.toNat:=by omega
  have j3:l.toNat*(sz+1)<=c.toNat*(sz+1):=h2Q _ e8;have f3:(fF l.toNat (cellsOf z)).length=l.toNat*(sz+1):=by rw [gE,e9]
  obtain⟨M',Z,q2,q3⟩:=oO a (1-E.A f d) (rc:=(Array.range (c.toNat*(sz+1))).map (rz.cells[· %rz.cells.size]!)) (fz:=(0,0)) (NewBlk.alloc w (.cells _ e)) (.inl (h1D _)) f3 e8 (by simp) (by
   rw [f3];have:((Array.range (c.toNat*(sz+1))).map (rz.cells[· %rz.cells.size]!)).toList.take (l.toNat*(sz+1))=((Array.range (l.toNat*(sz+1))).map (rz.cells[· %rz.cells.size]!)).toList:=by
    apply h3T;intro j
    by_cases hj:j<l.toNat*(sz+1)
    ·simp [hj,show j<c.toNat*(sz+1) by omega]
    ·have g6:min l.toNat c.toNat=l.toNat:=h8F e8;simp [hj,g6]
   rw [this];exact d0)
  refine⟨_,M',Z,q2,.inl ⟨_,_,rfl,?_,q3⟩⟩;simp only [execOp,hop,hρl,hρc];refine cD _ _ ?_;have wl:IntKind.i64.wrap l=l:=h0X _ (by omega);have wc:IntKind.i64.wrap c=c:=h0X _ (by omega);have t1: ∀n:Int,0<=n->n<=c->(decide (n<0)||decide ((T:Int)*n>2^48))=false:=by
   intro n h0 hn;have:(T:Int)*n<=T*c:=h5G hn (by omega);have e1:decide (n<0)=false:=by simp;omega
   have e2:decide ((T:Int)*n>2^48)=false:=by simp;omega
   rw [e1,e2];rfl
  have i3:(typeInfo e).run E.P w= .ok i w:=by simp [typeInfo,Y]
  simp only [Instr.makeSlice,h1K,run_underlying hu,h1F,asInt,asIntOf,h1R,i3,wl,wc,d9];have e3:(decide (c<0)||decide ((T:Int)*c>2^48)||decide (l<0)||decide (l>c))=false:=by
   rw [t1 c (by omega) (by omega)];have e1:decide (l<0)=false:=by simp;omega
   have e2:decide (l>c)=false:=by simp;omega
   rw [e1,e2];rfl
  have f7:i.size=sz+1:=b7;simp only [e3,h1X,if_false,h1R,h1F,run_askRoom,cG Y,f7,h1K]
  by_cases hn0:c.toNat*(sz+1)=0
  ·rw [if_pos hn0];simp only [h1K,h1R,h1F,Go.newRow,run_newObj,hn0];rw [uR _ (fun x=>rz.cells[x%rz.cells.size]!)];rfl
  ·rw [if_neg hn0];simp only [h1K,h1R,h1F,cJ w Y d5,Go.newRow,run_newObj];rfl
 |makeMap t r=>
  simp only [hop]at g;split at g
  case h_2=>simp at g
  simp at g;obtain⟨rfl,rfl⟩:=g;obtain⟨M',Z,q2,q3⟩:=e4P a (NewBlk.alloc w (.map #[] 0));refine⟨_,M',Z,q2,.inl ⟨_,_,rfl,?_,.map q3⟩⟩;simp only [execOp,hop];refine cD _ _ ?_;simp only [Instr.makeMap,h8E,h1K,h1R,h1F,run_newObj];rfl
 |convert s d x=>
  simp only [hop]at g;split at g
  case h_2=>simp at g
  rename_i ds e i2 b hs hd j2 hx;split at g
  case h_2=>simp at g
  rename_i i8;simp at g;obtain⟨rfl,rfl⟩:=g;have c1:=bK hev hx;generalize hρ:ρ x=rx at c1
  cases c1 with
  |str sb=>
   let cap:=grownCap w sb.size 0 e
   let c:Array Value:=sb.data.map (fun b=>Value.int .u8 b.toNat)++Array.replicate (cap-sb.size) (.int .u8 0)
   obtain⟨fz,nb,h7⟩:=b9Z w c e;have h9:sb.size<=cap:=grownCap_ge w sb.size 0 e;have i7:c.size=cap:=by
    have e1:sb.size=sb.data.size:=rfl;simp [c];omega
   have i4:eB M (sb.data.toList.map fun b=>IV.int .u8 b.toNat) (sb.data.toList.map fun b=>Value.int .u8 b.toNat):=
    ⟨⟨by simp,fun i p q=>by simpa using VR.int _ _⟩,fun i p=>by simp [isCell]⟩
   obtain⟨M',Z,q2,q3⟩:=oO a (E.A f i2) (len:=sb.data.toList.length) (cs:=sb.data.toList.map fun b=>IV.int .u8 b.toNat) (sz:=1) (cap:=cap) nb (.inr h7) (by simp) h9 (by rw [i7];omega) (by
    have:c.toList.take (sb.data.toList.map fun b=>IV.int .u8 (b.toNat:Int)).length=sb.data.toList.map fun b=>Value.int .u8 b.toNat:=by
     simp only [c,h7D,h7S,h1P];rw [h2Y (by simp),h1H (by simp)]
    rw [this];exact i4)
   refine⟨_,M',Z,q2,.inl ⟨_,_,rfl,?_,q3⟩⟩;simp only [execOp,hop,hρ];refine cD _ _ ?_;have e6:(convert s d (.string sb)).run E.P w=(Conv.stringToBytes e sb).run E.P w:=by
    cases ds<;>simp [convert,run_underlying hs,run_underlying hd,run_underlying i8]
   rw [e6];simp only [Conv.stringToBytes,h1K,run_choose,Question.forced,h1X,if_false,h1F,Go.newRow,run_newObj,h1R,markStringish,run_shape];have c8:({w with drawn:=w.drawn+1,heap:=w.heap.push (.cells c e) } :World).shape? w.heap.size=some (e,c.size):=by
    simp [World.shape?]
   have c0:World.shape? { {w with drawn:=w.drawn+1 }with heap:=({w with drawn:=w.drawn+1 } :World).heap.push (.cells c e) } ({w with drawn:=w.drawn+1 } :World).heap.size=some (e,c.size):=c8;have:=c0;simp only [c,cap,grownCap]at this;rw [this];simp only [h1R,h1F,run_freeze,h1K];rfl
 |store t ad x=>
  simp only [hop]at g;split at g
  case h_2=>simp at g
  rename_i id K v' ha hx;split at g
  case h_2=>simp at g
  rename_i cs hg;obtain⟨cs',h1,h2⟩:=h0W.1 g;simp at h2;obtain⟨rfl,rfl⟩:=h2;have c1:VR M (.ptr id K) (ρ ad):=hev _ _ ha;generalize hρ:ρ ad=ra at c1;obtain⟨b',rc,l1,l2,l3,l4,l5⟩:=a.row hg
  cases c1 with
  | @ptr _ _ b hl=>
   rw [hl]at l1;simp at l1;subst l1;obtain⟨el,fz,c9⟩:=l2.at_;obtain⟨f5,s1,s2,s3,s4,s5,s6⟩:=b3U (P:=E.P) l4 c9 l2.free (bK hev hx) h1;have c2: ∀j,(w.setCells b K (ρ x).cells.toList).frozen? ⟨b,j,none⟩=w.frozen? ⟨b,j,none⟩:=fun j=>World.frozen?_setCells b _ _ _ _
   obtain⟨Z,q2⟩:=a7M a (cs':=cs') hg hl (fun k hk=>fB b _ _ _ k hk) (fS b _ _ _) (fT b _ _ _)
    ⟨⟨el,fz,s2⟩,fun j hj=>by rw [c2];exact l2.free j (by omega),by rw [s3];exact l2.bsz⟩ (by omega) s5
   refine⟨_,M,Z,q2,.inr ⟨rfl,?_⟩⟩;simp only [execOp,hop,hρ];refine b0E _ _ ?_;simp only [Instr.storeAt,Instr.sureAddr,h1K,h1R,h1F];exact s1
 |mapUpdate t m k x=>
  simp only [hop]at g;split at g
  case h_2=>simp at g
  rename_i kt et id key v' hu hm hk hx;split at g
  case h_2=>simp at g
  rename_i d es hd hg;split at g
  case isFalse=>simp at g
  rename_i e4;obtain⟨es',h1,h2⟩:=h0W.1 g;simp at h2;obtain⟨rfl,rfl⟩:=h2;have a5:=bK hev hm;have a0:=bK hev hk;have c7:=bK hev hx;generalize hρ:ρ m=rm at a5
  cases a5 with
  | @map _ b hl=>
   obtain⟨b',ents,clock,g1,g2,g3,g4⟩:=a.maps id es hg;rw [hl]at g1;simp at g1;subst g1;have b6:=pW (M:=M) (emp:=false) hd e4 a0 w 9999;have a8:(getObj b).run E.P w= .ok (.map ents clock) w:=by simp [getObj,Sem.run,g2]
   have X: ∀ob,(setObj b ob).run E.P w= .ok () {w with heap:=w.heap.setIfInBounds b ob } :=by
    intro ob;simp [setObj,Sem.run,g2]
   have a6:b<w.heap.size:=cL g2;have fin: ∀G D,uF M es' G.toList/\Brn G D->(Instr.mapUpdate t (.map (some b)) (ρ k) (ρ x)).run E.P w= .ok () {w with heap:=w.heap.setIfInBounds b (.map G D) } ->b9Y E M h w o ρ none (h.set id (.map es')):=by
    intro G D d3 c3;obtain⟨Z,q2⟩:=b0F (w':= {w with heap:=w.heap.setIfInBounds b (.map G D) }) a (ents:=G) (clock:=D) (es':=es') hg hl (fun j hj=>by simp [h3F,show¬ (b=j)from fun e=>hj e.symm]) (by simp) ⟨rfl,rfl,rfl⟩ (by simp [h3F,a6]) d3;refine⟨_,M,Z,q2,.inr ⟨rfl,?_⟩⟩;simp only [execOp,hop,hρ];exact b0E _ _ c3
   rcases b0H a0 c7 0 g3 h1 with⟨j,e,u,p1,p2,p3,p4,p5⟩| ⟨p1,rfl⟩
   ·refine fin (ents.modify j fun e=> {e with key:=ρ k,val:=ρ x }) clock ⟨by rw [h7E];exact p5,g4.modify _ _ (fun _=>rfl)⟩ ?_;have hj:ents[j]?=some e:=by rw [<-Array.getElem?_toList];exact p1
    have b0:(Instr.keyThatStays (((ents[j]?).map (·.key)).getD (ρ k)) (ρ k)).run E.P w= .ok (ρ k) w:=by
     simp [hj,Instr.keyThatStays,p4]
    simp only [h1Q]at p2;simp only [Instr.mapUpdate,h1K,run_underlying hu,h1F,a8,b6,Instr.findKey,run_underlying hd,p2,h1R,b0,X]
   ·refine fin (ents.push {key:=ρ k,val:=ρ x,born:=clock }) (clock+1) ?_ ?_
    ·refine⟨?_,g4.push _ _⟩;rw [Array.toList_push];exact⟨by simpa using g3.1.append (cW.cons a0 (cW.nil M)),by simpa using g3.2.append (cW.cons c7 (cW.nil M))⟩
    ·simp only [Instr.mapUpdate,h1K,run_underlying hu,h1F,a8,b6,Instr.findKey,run_underlying hd,p1,h1R,X]
 |mapEntry t m k=>
  simp only [hop]at g;split at g
  case h_2=>simp at g
  rename_i kt et id key hu hm hk;split at g
  case h_2=>simp at g
  rename_i d es z hd hg hz;split at g
  case isFalse=>simp at g
  rename_i e4;obtain⟨⟨rv,rn,es'⟩,h1,h2⟩:=h0W.1 g;simp only [h0V,h2M]at h2;obtain⟨rfl,rfl⟩:=h2;have a5:=bK hev hm;have a0:=bK hev hk;generalize hρ:ρ m=rm at a5
  cases a5 with
  | @map _ b hl=>
   obtain⟨b',ents,clock,g1,g2,g3,g4⟩:=a.maps id es hg;rw [hl]at g1;simp at g1;subst g1;have b6:=pW (M:=M) (emp:=false) hd e4 a0 w 9999;have a8:(getObj b).run E.P w= .ok (.map ents clock) w:=by simp [getObj,Sem.run,g2]
   have X: ∀ob,(setObj b ob).run E.P w= .ok () {w with heap:=w.heap.setIfInBounds b ob } :=by
    intro ob;simp [setObj,Sem.run,g2]
   have a6:b<w.heap.size:=cL g2;have fin: ∀G D r,uF M es' G.toList/\Brn G D->VR M (.tuple [rv,.int .i64 rn]) r->(Instr.mapEntry t (.map (some b)) (ρ k)).run E.P w= .ok r {w with heap:=w.heap.setIfInBounds b (.map G D) } ->b9Y E M h w o ρ (some (.v (.tuple [rv,.int .i64 rn]))) (h.set id (.map es')):=by
    intro G D r d3 hr c3;obtain⟨Z,q2⟩:=b0F (w':= {w with heap:=w.heap.setIfInBounds b (.map G D) }) a (ents:=G) (clock:=D) (es':=es') hg hl (fun j hj=>by simp [h3F,show¬ (b=j)from fun e=>hj e.symm]) (by simp) ⟨rfl,rfl,rfl⟩ (by simp [h3F,a6]) d3;refine⟨_,M,Z,q2,.inl ⟨_,r,rfl,?_,hr⟩⟩;simp only [execOp,hop,hρ];exact cD _ _ c3
   unfold a7J at h1;split at h1
   ·rename_i y hf;obtain⟨j8,u1,u2⟩:=h0W.1 h1;simp only [h2M]at u2;obtain⟨rfl,rfl,rfl⟩:=u2;obtain⟨j0,u0,_,i9⟩:=tD a0 0 g3 hf;obtain⟨e,u,p1,p2,p3,p4,p5,p6,p7⟩:=c5F (v:=y) (rv:=u0) a0 i9 0 g3 hf u1;have hj:ents[kO d key es]?=some e:=by rw [<-Array.getElem?_toList];exact p1
    simp only [h1Q]at p2;rename_i j5 _;have i6:u0=u:=by
     have:=(‹Instr.findNow d (ρ k) ents.toList 0=some (some (j0,u0))›);rw [p2]at this;simp only [h0V,h2M]at this;exact this.2.symm
    subst i6;have f9:(ents.modify (kO d key es) fun e=> {e with key:=ρ k,val:=u0 })=ents.modify (kO d key es) fun e=> {e with key:=ρ k } :=by
     apply Array.ext_getElem?;intro j;rw [h3W,h3W];split
     ·rename_i j1;rw [<-j1,hj];simp [p4]
     ·rfl
    refine fin (ents.modify (kO d key es) fun e=> {e with key:=ρ k }) clock (.tuple #[u0,goInt (kO d key es)]) ⟨?_,g4.modify _ _ (fun _=>rfl)⟩ (dT (cW.cons p3 (cW.cons (.int _ _) (cW.nil M)))) ?_
    ·rw [<-f9,h7E];exact p7
    have b0:(Instr.keyThatStays (((ents[kO d key es]?).map (·.key)).getD (ρ k)) (ρ k)).run E.P w= .ok (ρ k) w:=by
     simp [hj,Instr.keyThatStays,p6]
    have d4:(((ents[kO d key es]?).map (fun x=>(x.born:Int))).getD 0)=(kO d key es:Int):=by
     rw [hj];have:=g4.2 _ _ hj;simp [this]
    simp only [Instr.mapEntry,h1K,run_underlying hu,h1F,a8,b6,Instr.findKey,run_underlying hd,p2,h1R,b0,X,d4]
   ·rename_i hf;simp only [h0V,h2M]at h1;obtain⟨rfl,rfl,rfl⟩:=h1;obtain⟨i,r,z1,z2,z3,z4⟩:=eG (M:=M) hz;have g5:=c9T a0 g3 hf;have i5:clock=es.length:=by rw [g4.1];have:=g3.len;simpa using this.symm
    refine fin (ents.push {key:=ρ k,val:=r,born:=clock }) (clock+1) (.tuple #[r,goInt clock]) ⟨?_,g4.push _ _⟩ (dT (cW.cons z3 (cW.cons (by rw [i5];exact .int _ _) (cW.nil M)))) ?_
    ·rw [Array.toList_push];exact⟨by simpa using g3.1.append (cW.cons a0 (cW.nil M)),by simpa using g3.2.append (cW.cons z3 (cW.nil M))⟩
    ·simp only [Instr.mapEntry,h1K,run_underlying hu,h1F,a8,b6,Instr.findKey,run_underlying hd,g5,h1R,cJ w z1 z2,X]
   ·cases h1
 |entryStore t m s x=>
  simp only [hop]at g;split at g
  case h_2=>simp at g
  rename_i id kd n v' hm hs hx;split at g
  case h_2=>simp at g
  rename_i es hg;split at g
  case isFalse=>simp at g
  rename_i hn;simp only [h0V,h2M]at g;obtain⟨rfl,rfl⟩:=g;have a5:=bK hev hm;have b8:=bK hev hs;have c7:=bK hev hx;generalize hρ:ρ m=rm at a5;generalize hρs:ρ s=rs at b8
  cases b8
  cases a5 with
  | @map _ b hl=>
   obtain⟨b',ents,clock,g1,g2,g3,g4⟩:=a.maps id es hg;rw [hl]at g1;simp at g1;subst g1;have a8:(getObj b).run E.P w= .ok (.map ents clock) w:=by simp [getObj,Sem.run,g2]
   have X: ∀ob,(setObj b ob).run E.P w= .ok () {w with heap:=w.heap.setIfInBounds b ob } :=by
    intro ob;simp [setObj,Sem.run,g2]
   have a6:b<w.heap.size:=cL g2;have f1:es.length=ents.size:=by have:=g3.len;simpa using this
   have d2:n.toNat<ents.size:=by omega
   have g9:ents.findIdx? (fun e=>(e.born:Int)==n)=some n.toNat:=by
    rw [Array.findIdx?_eq_some_iff_getElem];refine⟨d2,?_,fun j hj=>?_⟩
    ·have:=g4.2 n.toNat _ (h7Q d2);rw [this];simp;omega
    ·have:=g4.2 j _ (h7Q (by omega));rw [this];simp;omega
   obtain⟨Z,q2⟩:=b0F (w':= {w with heap:=w.heap.setIfInBounds b (.map (ents.modify n.toNat fun e=> {e with val:=ρ x }) clock) }) a (ents:=ents.modify n.toNat fun e=> {e with val:=ρ x }) (clock:=clock) (es':=nN v' n.toNat es) hg hl (fun j hj=>by simp [h3F,show¬ (b=j)from fun e=>hj e.symm]) (by simp) ⟨rfl,rfl,rfl⟩ (by simp [h3F,a6]) ⟨by rw [h7E];exact d3I c7 _ g3,g4.modify _ _ (fun _=>rfl)⟩;refine⟨_,M,Z,q2,.inr ⟨rfl,?_⟩⟩;simp only [execOp,hop,hρ,hρs];refine b0E _ _ ?_;simp only [Instr.entryStore,h1K,h1R,h1F,a8,asInt,asIntOf,g9,X]
 |call c=>
  obtain⟨c5,d1,V⟩:=c;simp only [hop]at g
  cases c5 with
  |value x=>simp at g
  |invoke x n=>simp at g
  |builtin b=>
   cases b
   case append=>
    simp only at g;split at g
    case h_2=>simp at g
    rename_i t u sx xx d6 d7;have f8:V= #[t,u]:=by apply h4V;simpa using d6
    have b5:d1= #[sx,xx]:=by apply h4V;simpa using d7
    split at g
    case h_2=>simp at g
    rename_i s x e du d hs hx ht hu hd;split at g
    case h_2=>simp at g
    rename_i sz T z a7 f0 hz;split at g
    case isFalse=>simp at g
    rename_i L;obtain⟨e9,hk⟩:=L;obtain⟨⟨r,j9⟩,h1,h2⟩:=h0W.1 g;simp at h2;obtain⟨rfl,rfl⟩:=h2;obtain⟨i,Y,b7⟩:=dK a7;obtain⟨i',a9,d9⟩:=mA f0;rw [Y]at a9;simp at a9;subst a9;obtain⟨rz,d5,c6⟩:=mN (M:=M) hz Y;have g0:rz.cells.size=sz+1:=by have:=c6.len;simp at this;omega
    obtain⟨rr,w',M',a1,a2,a3,a4⟩:=c9S (P:=E.P) a (ty:=o.type) ht Y b7 d9 d5 g0 hu hk (bK hev hs) (bK hev hx) h1;refine⟨w',M',a3,a4,.inl ⟨_,rr,rfl,?_,a2⟩⟩;subst f8;subst b5;simp only [execOp,hop,resolve,invoke,h1K,h1R,h1F,builtin];simp only [h7U,h2H,h4D,a1,h1F]
   case copy=>
    simp only at g;split at g
    case h_2=>simp at g
    rename_i t ts sx xx d6 d7;have b5:d1= #[sx,xx]:=by apply h4V;simpa using d7
    split at g
    case h_2=>simp at g
    rename_i id K len z x e hs hx ht;split at g
    case h_2=>simp at g
    rename_i sz cs a7 hg;split at g
    case h_2=>simp at g
    rename_i n xs f4;split at g
    case isFalse=>simp at g
    rename_i L;obtain⟨rfl,j6⟩:=L;simp only [h0V,h2M]at g;obtain⟨rfl,rfl⟩:=g;obtain⟨i,Y,b7⟩:=dK a7;obtain⟨s1,s2,s3,s4⟩:=b0G (P:=E.P) a (bK hev hx) f4;obtain⟨O,n1,n2,n3,n4⟩:=s4 (min n len) (Nat.min_le_left _ _);obtain⟨b',rc,l1,l2,l3,l4,l5⟩:=a.row hg;have b8:=bK hev hs;generalize hρ:ρ sx=rs at b8;have f2:V[0]?=some t:=by rw [<-Array.getElem?_toList,d6];rfl
    cases b8 with
    | @hslice _ _ _ _ cap b ad hl had f1=>
     rw [hl]at l1;simp at l1;subst l1;have j7:min n len*(sz+1)<=len*(sz+1):=h2Q _ (Nat.min_le_right _ _);have d2:(xs.take (min n len*(sz+1))).length=O.length:=n1.len;obtain⟨el,fz,c9⟩:=l2.at_;obtain⟨f5,e1,e2⟩:=iB b O K w rc el fz c9 (by omega);have e5:f5.size=rc.size:=by
      have:=congrArg List.length e2;rw [nO _ _ _ (by simp;omega)]at this;simpa using this
     have c2: ∀j,(w.setCells b K O).frozen? ⟨b,j,none⟩=w.frozen? ⟨b,j,none⟩:=fun j=>World.frozen?_setCells b _ _ _ _
     have b9:(spl cs K (xs.take (min n len*(sz+1)))).length=cs.length:=by
      simp only [spl,h1E,h1Y,h5N];omega
     obtain⟨Z,q2⟩:=a7M a (cs':=spl cs K (xs.take (min n len*(sz+1)))) hg hl (fun k hk=>fB b _ _ _ k hk) (fS b _ _ _) (fT b _ _ _)
      ⟨⟨el,fz,e1⟩,fun j hj=>by rw [c2];exact l2.free j (by omega),by rw [e5];exact l2.bsz⟩ (by rw [b9];omega) (by
       rw [b9,e2];have:(oB rc.toList K O).take cs.length=oB (rc.toList.take cs.length) K O:=by
        simp only [oB];rw [h5O,h5O];simp only [h1Y,h1E,h8K,h4Z];rw [show min K rc.size=K from by omega,show min cs.length K=K from by omega,show min K cs.length=K from by omega];rw [h1H (l:=O) (by omega),List.drop_take]
       rw [this];exact l4.spl n1 K)
     refine⟨_,M,Z,q2,.inl ⟨_,goInt (min n len:Nat),rfl,?_,.int _ _⟩⟩;subst b5;simp only [execOp,hop,resolve,invoke,h1K,h1R,h1F,builtin];have e7:(Builtin.copy_ V o.type #[.slice (some ad) len cap,ρ xx]).run E.P w= .ok (goInt (min n len:Nat)) (w.setCells b K O):=by
      have i0:(storeCells ad O 0).run E.P w= .ok () (w.setCells b K O):=by
       by_cases h0:cap=0
       ·have:O=[]:=by
         have:min n len=0:=by omega
         rw [this]at n2;simpa using n2
        subst this;rfl
       ·obtain⟨rfl,_⟩:=had.resolve_left h0;exact run_storeCells_cells (P:=E.P) b K O 0 w (by
         intro j hj;simp [World.cell?,c9,show K+j<rc.size by omega]) (by
         intro j hj;simpa using l2.free (K+j) (by omega)) n1.one
      have f6:Nat.min n len=min n len:=rfl;simp [Builtin.copy_,f2,run_underlying ht,s2,cG Y,b7,f6,n3,i0]
     simp only [h7U,h2H,h4D,hρ,e7,h1F]
   all_goals simp at g
 |_=>simp [hop]at g
end
end
end Go.Pv
end
section
namespace Go.Pv
open Go
def rN(h:Heap)(m i sz g:Nat)(s x:IV):Option (IV×Heap):=match s,x with
 | .nilslice,.hslice _ _ _ _=>none
 | .nilslice,x=>match fO h sz x with
  |some (n,xs)=>if 0<n/\n*g<=140737488355328 then some (mO h m i n sz xs)else none
  |none=>none
 |_,_=>none
section
variable {P:Program} {M:Meta} {h:Heap} {w:World}
theorem b4A(a:Inv M h w){m:Nat}(a0:h.get m= .free){A sz g:Nat}{t T ty e:TypeId}{i:TypeInfo}{z:Value}{du:TypeDesc}{s x v:IV}{rs L:Value}{h':Heap}(ht:P.underlying t=some (.slice e))(hi:P.info? e=some i)(O:i.size=sz+1)(X:i.bytes=g+1)
  (hz:i.zero=some z) (hzl:z.cells.size=sz+1) (hu:P.underlying T=some du) (hk:lX du=true) (hs:VR M s rs) (hx:VR M x L) (happ:rN h m A (sz+1) (g+1) s x=some (v,h')):
  ∃r w' M',(Builtin.append_ #[t,T] ty #[rs,L]).run P w= .ok r w'/\VR M' v r/\Inv M' h' w'/\Pres w.heap.size M h w M' h' w':=by
 unfold rN at happ;split at happ
 ·simp at happ
 ·split at happ
  case h_2=>simp at happ
  rename_i n xs p;split at happ
  case isFalse=>simp at happ
  rename_i V;obtain⟨hn,hb⟩:=V;simp only [h0V]at happ
  cases hs
  obtain⟨j,hc,hS⟩:=c5E (P:=P) a hu hk hx p;have l:xs.length=n*(sz+1):=(b0G (P:=P) a hx p).1;have D:j.length=n*(sz+1):=by rw [<-hc.len,l]
  rw [<-O]at hS;have y: ∀m,(Builtin.zeroCells z.cells m).size=m*(sz+1):=fun m=>by rw [size_zeroCells,hzl]
  have G:Builtin.nextslicecap (0+n) 0*i.bytes<=281474976710656:=growslice_fits (by omega) (by rw [X];simpa using hb);have Z:((0+n:Nat):Int)<=9223372036854775807:=by
   have:n*1<=n*(g+1):=h5A _ (by omega);omega
  have u:=run_append_grow_src (P:=P) w t T ty e i z ht hi hz none 0 0 [] (run_firstCells_none w.drew i.size 0 0 0) L n j hS (by omega) Z G;simp only [h3U,h1Q]at u;have Y:=grownCap_ge w n 0 e;have K:grownCap w n 0 e*(sz+1)<=(j.toArray++Builtin.zeroCells z.cells (grownCap w n 0 e-n)).size:=by
   simp only [h5H,h4B,D,y];rw [<-Nat.add_mul];exact h2Q _ (by omega)
  obtain⟨M',r1,r2,r3⟩:=a0K a a0 A (fun _=>by rw [l];exact h9A hn (h5J _)) (fz:=(0,0)) (rM w _) (.inl (h1D _)) l Y K (by
   rw [l,<-D];simpa using hc)
  rw [happ]at r1 r2 r3;exact⟨_,_,M',u,r3,r1,r2⟩
 ·simp at happ
end
section
variable (E:Env) (f:FuncId) (o:Oper) (ev:Operand->Option TV) (h:Heap) (n:Nat)
def e4V:Option (Option TV×Heap):=
 match o.op with
 | .alloc t=>match o.dst with
  |some d=>if E.bx f d=0 then none else(cV E.P t).map fun z=>(some (.v (.ptr n 0)),h.set n (.cells (cellsOf z)))
  |none=>none
 | .makeSlice t l c=>match E.P.underlying t,o.dst,asI (ev l),asI (ev c)with
  |some (.slice e),some d,some l,some c=>match gB E.P e,iH E.P e,cV E.P e with
   |some (sz+1),some bytes,some z=>
    if 0<=l/\l<=c/\c<=9223372036854775807/\bytes*c<=140737488355328/\(cellsOf z).length=sz+1/\(1-E.A f d=0->0<l.toNat)then
     let r:=mO h n (1-E.A f d) l.toNat (sz+1) (fF l.toNat (cellsOf z));some (some (.v r.1),r.2)
    else none
   |_,_,_=>none
  |_,_,_,_=>none
 | .makeMap _ r=>match r with
  |none=>some (some (.v (.map n)),h.set n (.map []))
  |some _=>none
 | .call {callee:= .builtin .append,args,argTypes } =>
  match argTypes.toList,args.toList with
  | [t,u],[sx,xx]=>match bM (ev sx),bM (ev xx),E.P.underlying t,E.P.underlying u,o.dst with
   |some s,some x,some (.slice e),some du,some d=>match gB E.P e,iH E.P e,cV E.P e with
    |some (sz+1),some (bytes+1),some z=>if(cellsOf z).length=sz+1/\lX du=true then(rN h n (E.A f d) (sz+1) (bytes+1) s x).map fun r=>(some (.v r.1),r.2)else none
    |_,_,_=>none
   |_,_,_,_,_=>none
  |_,_=>none
 |_=>none
end
section
variable {M:Meta} {h:Heap} {w:World} {E:Env} {f:FuncId} {o:Oper} {ev:Operand->Option TV} {ρ:Operand->Value} {pb:Nat->Nat}
theorem e4W(a:Inv M h w){n:Nat}(hn:h.get n= .free)(hev: ∀x tv,ev x=some tv->TR M pb tv (ρ x)){v:Option TV}{h':Heap}(g:e4V E f o ev h n=some (v,h')):b9Y E M h w o ρ v h':=by
 unfold e4V at g
 cases hop:o.op with
 |alloc t=>
  simp only [hop]at g;split at g
  case h_2=>simp at g
  split at g
  ·simp at g
  obtain⟨z,h1,h2⟩:=h0W.1 g;simp at h2;obtain⟨rfl,rfl⟩:=h2;obtain⟨i,r,h3,h4,h5,h6⟩:=eG (M:=M) h1;have hc:=jI h5 h6;have hl:(cellsOf z).length=r.cells.size:=by simpa using hc.len
  obtain⟨M',q1,q2,q3,q4⟩:=a7N a hn (fz:=(0,0)) (cs:=cellsOf z) (NewBlk.alloc w (.cells r.cells t)) (.inl (h1D _)) (by omega) (by rw [h1H (by simp;omega)];exact hc);refine⟨_,M',q1,q2,.inl ⟨_,_,rfl,?_,.ptr q3⟩⟩;simp only [execOp,hop];refine cD _ _ ?_;simp only [Instr.alloc,h1K,cJ w h3 h4,h1F,newVar,Go.newRow,run_newObj,h1R];rfl
 |makeSlice t lo co=>
  simp only [hop]at g;split at g
  case h_2=>simp at g
  rename_i e d l c hu hd hl hc;split at g
  case h_2=>simp at g
  rename_i sz m z V a0 hz;split at g
  case isFalse=>simp at g
  rename_i y;obtain⟨b1,b2,b3,b4,Y,b5⟩:=y;simp only [h0V,h2M]at g;obtain⟨rfl,rfl⟩:=g;obtain⟨kl,c5⟩:=pT hl;obtain⟨kc,b9⟩:=pT hc;have vl:VR M (.int kl l) (ρ lo):=hev _ _ c5;have vc:VR M (.int kc c) (ρ co):=hev _ _ b9;generalize hρl:ρ lo=rl at vl;generalize hρc:ρ co=rc at vc
  cases vl
  cases vc
  obtain⟨i,p,a7⟩:=dK V;obtain⟨i',D,a8⟩:=mA a0;rw [p]at D;simp at D;subst D;obtain⟨K,a6,O⟩:=mN (M:=M) hz p;have T:=wK O (by omega) l.toNat;have Z:=wK O (by omega) c.toNat;rw [Y]at T Z;have X:l.toNat<=c.toNat:=by omega
  have c6:l.toNat*(sz+1)<=c.toNat*(sz+1):=h2Q _ X;have a5:(fF l.toNat (cellsOf z)).length=l.toNat*(sz+1):=by rw [gE,Y]
  obtain⟨M',q1,q2,q3⟩:=a0K a hn (1-E.A f d) (by intro hw;rw [a5];have:=b5 hw;exact h9A this (h5J _)) (rc:=(Array.range (c.toNat*(sz+1))).map (K.cells[· %K.cells.size]!)) (fz:=(0,0)) (NewBlk.alloc w (.cells _ e)) (.inl (h1D _)) a5 X (by simp) (by
   rw [a5];have:((Array.range (c.toNat*(sz+1))).map (K.cells[· %K.cells.size]!)).toList.take (l.toNat*(sz+1))=((Array.range (l.toNat*(sz+1))).map (K.cells[· %K.cells.size]!)).toList:=by
    apply h3T;intro j
    by_cases hj:j<l.toNat*(sz+1)
    ·simp [hj,show j<c.toNat*(sz+1) by omega]
    ·have b8:min l.toNat c.toNat=l.toNat:=h8F X;simp [hj,b8]
   rw [this];exact T)
  refine⟨_,M',q1,q2,.inl ⟨_,_,rfl,?_,q3⟩⟩;simp only [execOp,hop,hρl,hρc];refine cD _ _ ?_;have wl:IntKind.i64.wrap l=l:=h0X _ (by omega);have wc:IntKind.i64.wrap c=c:=h0X _ (by omega);have t1: ∀n:Int,0<=n->n<=c->(decide (n<0)||decide ((m:Int)*n>2^48))=false:=by
   intro n h0 hn;have:(m:Int)*n<=m*c:=h5G hn (by omega);have e1:decide (n<0)=false:=by simp;omega
   have e2:decide ((m:Int)*n>2^48)=false:=by simp;omega
   rw [e1,e2];rfl
  have c3:(typeInfo e).run E.P w= .ok i w:=by simp [typeInfo,p]
  simp only [Instr.makeSlice,h1K,run_underlying hu,h1F,asInt,asIntOf,h1R,c3,wl,wc,a8];have e3:(decide (c<0)||decide ((m:Int)*c>2^48)||decide (l<0)||decide (l>c))=false:=by
   rw [t1 c (by omega) (by omega)];have e1:decide (l<0)=false:=by simp;omega
   have e2:decide (l>c)=false:=by simp;omega
   rw [e1,e2];rfl
  have b6:i.size=sz+1:=a7;simp only [e3,h1X,if_false,h1R,h1F,run_askRoom,cG p,b6,h1K]
  by_cases hn0:c.toNat*(sz+1)=0
  ·rw [if_pos hn0];simp only [h1K,h1R,h1F,Go.newRow,run_newObj,hn0];rw [uR _ (fun x=>K.cells[x%K.cells.size]!)];rfl
  ·rw [if_neg hn0];simp only [h1K,h1R,h1F,cJ w p a6,Go.newRow,run_newObj];rfl
 |makeMap t r=>
  simp only [hop]at g;split at g
  case h_2=>simp at g
  simp at g;obtain⟨rfl,rfl⟩:=g;obtain⟨M',q1,q2,q3⟩:=e4R a hn (NewBlk.alloc w (.map #[] 0));refine⟨_,M',q1,q2,.inl ⟨_,_,rfl,?_,.map q3⟩⟩;simp only [execOp,hop];refine cD _ _ ?_;simp only [Instr.makeMap,h8E,h1K,h1R,h1F,run_newObj];rfl
 |call c=>
  obtain⟨L,b7,G⟩:=c;simp only [hop]at g
  cases L with
  |value x=>simp at g
  |invoke x n=>simp at g
  |builtin b=>
   cases b
   case append=>
    simp only at g;split at g
    case h_2=>simp at g
    rename_i t u sx xx c0 c2;have a9:G= #[t,u]:=by apply h4V;simpa using c0
    have b0:b7= #[sx,xx]:=by apply h4V;simpa using c2
    split at g
    case h_2=>simp at g
    rename_i s x e du d hs hx ht hu hd;split at g
    case h_2=>simp at g
    rename_i sz m z V a0 hz;split at g
    case isFalse=>simp at g
    rename_i y;obtain⟨Y,hk⟩:=y;obtain⟨⟨r,c7⟩,h1,h2⟩:=h0W.1 g;simp at h2;obtain⟨rfl,rfl⟩:=h2;obtain⟨i,p,a7⟩:=dK V;obtain⟨i',D,a8⟩:=mA a0;rw [p]at D;simp at D;subst D;obtain⟨K,a6,O⟩:=mN (M:=M) hz p;have c1:K.cells.size=sz+1:=by have:=O.len;simp at this;omega
    obtain⟨rr,w',M',a1,a2,a3,a4⟩:=b4A (P:=E.P) a hn (ty:=o.type) ht p a7 a8 a6 c1 hu hk (bK hev hs) (bK hev hx) h1;refine⟨w',M',a3,a4,.inl ⟨_,rr,rfl,?_,a2⟩⟩;subst a9;subst b0;simp only [execOp,hop,resolve,invoke,h1K,h1R,h1F,builtin];simp only [h7U,h2H,h4D,a1,h1F]
   all_goals simp at g
 |_=>simp [hop]at g
theorem c5H{sz:Nat}{x:IV}{r:Nat×List IV}(g:e4H sz x=some r)(h:Heap):fO h sz x=some r/\∀id off len z,x≠ .hslice id off len z:=by
 unfold e4H at g;unfold fO
 cases x<;>simp_all
theorem e4X{n:Nat}{v:Option TV}{x:IObj}(g:aSh E f o ev n=some (v,some x)):e4V E f o ev h n=some (v,h.set n x):=by
 unfold aSh at g;unfold e4V
 cases hop:o.op<;>simp only [hop]at g⊢
 all_goals try (cases g;done)
 case alloc t=>
  split at g
  ·rename_i d hd;split at g
   ·cases g
   ·rename_i L;obtain⟨z,h1,h2⟩:=h0W.1 g;simp only [h2M,h0V]at h2;obtain⟨rfl,rfl⟩:=h2;simp [hd,L,h1]
  ·cases g
 case makeSlice t l c=>
  split at g
  case h_2=>cases g
  rename_i e d l c O hd hl K;split at g
  case h_2=>cases g
  rename_i sz i z y A V;simp only [O,hd,hl,K,y,A,V];split at g
  ·rename_i K;simp only [h0V,h2M]at g;obtain⟨rfl,rfl⟩:=g;rw [if_pos K];rfl
  ·cases g
 case makeMap t r=>
  split at g
  ·simp only [h0V,h2M]at g;obtain⟨rfl,rfl⟩:=g;rfl
  ·cases g
 case call c=>
  obtain⟨j,Z,D⟩:=c
  cases j with
  |value x=>simp at g
  |invoke x n=>simp at g
  |builtin b=>
   cases b<;>simp only at g⊢
   all_goals try (cases g;done)
   split at g
   case h_2=>cases g
   rename_i t u sx xx T X;split at g
   case h_2=>cases g
   rename_i x1 e du d hs Y ht O hd;split at g
   case h_2=>cases g
   rename_i sz i z y A V;simp only [T,X,hs,Y,ht,O,hd,y,A,V];split at g
   case isFalse=>cases g
   rename_i K;rw [if_pos K];split at g
   case h_2=>cases g
   rename_i k xs G;split at g
   ·simp at g
   rename_i hk;split at g
   case isFalse=>cases g
   rename_i L;simp only [h0V,h2M]at g;obtain⟨rfl,rfl⟩:=g;obtain⟨e1,e2⟩:=c5H G h;have: ∀{x:IV}(_: ∀id off len z,x≠ .hslice id off len z){m p sz i:Nat},rN h m p sz i .nilslice x=match fO h sz x with
     |some (n,xs)=>if 0<n/\n*i<=140737488355328 then some (mO h m p n sz xs)else none
     |none=>none:=by
    intro x Y m p sz i;unfold rN
    cases x
    case hslice id off len z=>exact absurd rfl (Y id off len z)
    all_goals rfl
   rw [this e2,e1];simp only;rw [if_pos ⟨by omega,L⟩];rfl
theorem d3J{n:Nat}{v:Option TV}(g:aSh E f o ev n=some (v,none)):gV E f o ev h=some (v,h):=by
 unfold aSh at g;unfold gV
 cases hop:o.op<;>simp only [hop]at g⊢
 all_goals try (cases g;done)
 case alloc t=>
  split at g
  ·split at g
   ·cases g
   ·obtain⟨z,h1,h2⟩:=h0W.1 g;simp at h2
  ·cases g
 case makeSlice t l c=>
  split at g
  case h_2=>cases g
  split at g
  case h_2=>cases g
  split at g
  ·simp at g
  ·cases g
 case makeMap t r=>
  split at g
  ·simp at g
  ·cases g
 case call c=>
  obtain⟨i,K,j⟩:=c
  cases i with
  |value x=>simp at g
  |invoke x n=>simp at g
  |builtin b=>
   cases b<;>simp only at g⊢
   all_goals try (cases g;done)
   split at g
   case h_2=>cases g
   rename_i t u sx xx y A;split at g
   case h_2=>cases g
   rename_i x1 e du d L hx T V hd;split at g
   case h_2=>cases g
   rename_i sz G z p D Z;simp only [y,A,L,hx,T,V,hd,p,D,Z];split at g
   case isFalse=>cases g
   rename_i X;rw [if_pos X];split at g
   case h_2=>cases g
   rename_i k xs m;obtain⟨O,e2⟩:=c5H m h;split at g
   ·rename_i Y;simp only [h0V,h2M,and_true]at g;subst g;unfold kP
    rw [O];simp [Y]
   ·split at g
    ·simp at g
    ·cases g
theorem f1P(a:Inv M h w){n:Nat}(hev: ∀x tv,ev x=some tv->TR M pb tv (ρ x)){v:Option TV}{x:IObj}(i:h.get n= .free)(g:aSh E f o ev n=some (v,some x)):b9Y E M h w o ρ v (h.set n x):=e4W a i hev (e4X g)
theorem e4Y(a:Inv M h w){n:Nat}(hev: ∀x tv,ev x=some tv->TR M pb tv (ρ x)){v:Option TV}(g:aSh E f o ev n=some (v,none)):b9Y E M h w o ρ v h:=c5G a hev (d3J g)
end
end Go.Pv
end
end
