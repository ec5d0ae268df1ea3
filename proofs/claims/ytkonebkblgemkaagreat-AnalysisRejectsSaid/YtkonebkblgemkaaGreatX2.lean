/-
  Texts of this proof, one after the other.
  Conditions: none.
-/
import Derived.Test.YtkonebkblgemkaaGreatX1
set_option linter.unusedVariables false
set_option linter.unusedSimpArgs false
set_option maxRecDepth 100000
set_option maxHeartbeats 4000000
noncomputable section
section
namespace Go.Pv
namespace PT
variable {α:Type}
theorem d3F(n:Nat): ∀(t:PT α)(k j:Nat)(x:Option α),k<n->(a6P n t k x).get j=if j=k then x else t.get j:=by
 induction n with
 |zero=>intro t k j x h;omega
 |succ n ih=>
  intro t k j x h;have m: ∀j,j%2=1->t.get j=t.left.get ((j-1)/2):=by
   intro j g
   cases t with
   |nil=>rfl
   |node l v r=>simp [get,left,show j≠0 by omega,g]
  have i: ∀j,j≠0->j%2=0->t.get j=t.right.get ((j-2)/2):=by
   intro j u g
   cases t with
   |nil=>rfl
   |node l v r=>simp [get,right,u,g]
  have p:t.get 0=t.val:=by
   cases t with
   |nil=>rfl
   |node l v r=>simp [get,val]
  unfold a6P
  by_cases hk:k=0
  ·subst hk;simp only [if_true,get]
   by_cases g:j=0
   ·simp [g]
   ·by_cases hj2:j%2=1
    ·simp [g,hj2,m j hj2]
    ·simp [g,hj2,i j g (by omega)]
  ·rw [if_neg hk]
   by_cases hk2:k%2=1
   ·rw [if_pos hk2];simp only [get]
    by_cases g:j=0
    ·subst g;simp [p,show¬ (0=k) by omega]
    ·rw [if_neg g]
     by_cases hj2:j%2=1
     ·rw [if_pos hj2,ih _ _ _ _ (by omega),m j hj2]
      by_cases e:j=k
      ·simp [e]
      ·rw [if_neg (by omega),if_neg e]
     ·rw [if_neg hj2,if_neg (by omega),i j g (by omega)]
   ·rw [if_neg hk2];simp only [get]
    by_cases g:j=0
    ·subst g;simp [p,show¬ (0=k) by omega]
    ·rw [if_neg g]
     by_cases hj2:j%2=1
     ·rw [if_pos hj2,if_neg (by omega),m j hj2]
     ·rw [if_neg hj2,ih _ _ _ _ (by omega),i j g (by omega)]
      by_cases e:j=k
      ·simp [e]
      ·rw [if_neg (by omega),if_neg e]
theorem get_set(t:PT α)(k j:Nat)(x:Option α):(t.set k x).get j=if j=k then x else t.get j:=d3F _ _ _ _ _ (by omega)
theorem get_filt(f:α->Bool): ∀(t:PT α)(j:Nat),(t.filt f).get j=match t.get j with|some x=>if f x then some x else none|none=>none
 |nil,j=>rfl
 |node l v r,j=>by
  unfold filt get
  by_cases hj:j=0
  ·simp only [hj,if_true]<;>cases v<;>rfl
  ·by_cases hj2:j%2=1
   ·simp [hj,hj2,get_filt f l]
   ·simp [hj,hj2,get_filt f r]
theorem yQ: ∀(n m:Nat)(t:PT α)(j k:Nat)(x y:Option α),j≠k->a6P n (a6P m t j x) k y=a6P m (a6P n t k y) j x
 |0,m,t,j,k,x,y,_=>by cases m<;>rfl
 |n+1,0,t,j,k,x,y,_=>rfl
 |n+1,m+1,t,j,k,x,y,hjk=>by
  simp only [a6P]
  by_cases hj:j=0
  ·have g:k≠0:=fun e=>hjk (by omega)
   by_cases hk2:k%2=1<;>simp [hj,g,hk2,left,right,val]
  ·by_cases g:k=0
   ·by_cases hj2:j%2=1<;>simp [hj,g,hj2,left,right,val]
   ·by_cases hj2:j%2=1<;>by_cases hk2:k%2=1<;>simp [hj,g,hj2,hk2,left,right,val]
    ·exact yQ n m _ _ _ _ _ (by omega)
    ·exact yQ n m _ _ _ _ _ (by omega)
theorem set_comm(t:PT α){j k:Nat}(x y:Option α)(h:j≠k):(t.set j x).set k y=(t.set k y).set j x:=yQ _ _ _ _ _ _ _ h
end PT
theorem Heap.set_comm(h:Heap){j k:Nat}(x y:IObj)(e:j≠k):(h.set j x).set k y=(h.set k y).set j x:=by
 simp only [Heap.set,PT.set_comm _ _ _ e]
theorem Heap.get_set(h:Heap)(id j:Nat)(x:IObj):(h.set id x).get j=if j=id then x else h.get j:=by
 simp only [Heap.get,Heap.set,PT.get_set];split<;>rfl
theorem Heap.get_push(h:Heap)(j:Nat)(x:IObj):(h.push x).get j=if j=h.next then x else h.get j:=by
 simp only [Heap.get,Heap.push,PT.get_set];split<;>rfl
theorem Heap.next_set(h:Heap)(id:Nat)(x:IObj):(h.set id x).next=h.next:=rfl
theorem Heap.next_push(h:Heap)(x:IObj):(h.push x).next=h.next+1:=rfl
structure Blk(M:Meta)(w:World)(b:Nat)(rc:Array Value):Prop where
 at_: ∃el fz,w.heap[b]?=some (.cells rc el fz)
 free: ∀i,i<rc.size->w.frozen? ⟨b,i,none⟩=false
 bsz:M.bsz b=some rc.size
def Brn(ents:Array MapEntry)(clock:Nat):Prop:=clock=ents.size/\∀(j:Nat)(e:MapEntry),ents[j]?=some e->e.born=j
theorem Brn.nil:Brn #[] 0:=⟨rfl,fun j e h=>by simp at h⟩
theorem Brn.push{ents:Array MapEntry}{clock:Nat}(b:Brn ents clock)(k v:Value):Brn (ents.push {key:=k,val:=v,born:=clock }) (clock+1):=by
 obtain⟨h1,h2⟩:=b;refine⟨by simp [h1],fun j e h=>?_⟩;rw [h5V]at h;split at h
 ·rename_i g;simp only [h0V]at h;rw [<-h,g];exact h1
 ·exact h2 j e h
theorem Brn.modify{ents:Array MapEntry}{clock:Nat}(b:Brn ents clock)(i:Nat)(g:MapEntry->MapEntry)(p: ∀e,(g e).born=e.born):Brn (ents.modify i g) clock:=by
 obtain⟨h1,h2⟩:=b;refine⟨by simp [h1],fun j e h=>?_⟩;rw [h3W]at h;split at h
 ·obtain⟨x,m,l⟩:=h0W.1 h;rw [<-l,p];exact h2 j x m
 ·exact h2 j e h
def uF(M:Meta)(g:List (IV×IV))(ents:List MapEntry):Prop:=cW M (g.map (·.1)) (ents.map (·.key))/\cW M (g.map (·.2)) (ents.map (·.val))
def Wb(M:Meta)(h:Heap)(id:Nat):Option Nat:=
 match h.get id with
 | .cells _=>M.loc id
 | .map _=>M.loc id
 | .tip _=>some (M.cur id).1
 | .dead=>none
 | .free=>none
def Wr(M:Meta)(h:Heap)(b:Nat):Prop:= ∃id,Wb M h id=some b
structure Inv(M:Meta)(h:Heap)(w:World):Prop where
 nid:M.nid=h.next
 fresh: ∀id,h.next<=id->h.get id= .dead
 freshl: ∀id,h.next<=id->M.loc id=none
 cells: ∀id cs,h.get id= .cells cs-> ∃b rc,M.loc id=some b/\Blk M w b rc/\cs.length<=rc.size/\eB M cs (rc.toList.take cs.length)/\∀o,M.im b o=none
 tips: ∀id n,h.get id= .tip n->M.tip id=n/\∃b e rc,M.cur id=(b,e)/\Blk M w b rc/\e<=rc.size/\∀o,e<=o->M.im b o=none
 maps: ∀id es,h.get id= .map es-> ∃b ents clock,M.loc id=some b/\w.heap[b]?=some (.map ents clock)/\uF M es ents.toList/\Brn ents clock
 im: ∀b o v,M.im b o=some v->w.cell? ⟨b,o,none⟩=some v
 bsz: ∀b n,M.bsz b=some n->b<w.heap.size
 one: ∀id id' b,Wb M h id=some b->Wb M h id'=some b->id=id'
 resv: ∀id,h.get id= .free->M.loc id=none/\M.tip id=0
structure Pres(B:Nat)(M:Meta)(h:Heap)(w:World)(M':Meta)(h':Heap)(w':World):Prop where
 ext:Ext M M'
 size:w.heap.size<=w'.heap.size
 os:w'.os=w.os
 tape:w'.tape=w.tape
 output:w'.output=w.output
 keep: ∀b,b<B-> ¬Wr M h b->w'.heap[b]?=w.heap[b]?/\¬Wr M' h' b/\∀o,M'.im b o=M.im b o
theorem Pres.refl(B:Nat)(M:Meta)(h:Heap)(w:World):Pres B M h w M h w:=⟨Ext.refl M,h1D _,rfl,rfl,rfl,fun _ _ g=>⟨rfl,g,fun _=>rfl⟩⟩
theorem Pres.trans{B:Nat}{i g l:Meta}{h1 h2 h3:Heap}{r p m:World}(a:Pres B i h1 r g h2 p)(b:Pres B g h2 p l h3 m):Pres B i h1 r l h3 m where
 ext:=a.ext.trans b.ext
 size:=h2F a.size b.size
 os:=b.os.trans a.os
 tape:=b.tape.trans a.tape
 output:=b.output.trans a.output
 keep:=fun k j z=>by
  obtain⟨K,u,G⟩:=a.keep k j z;obtain⟨A,D,y⟩:=b.keep k j u;exact⟨A.trans K,D,fun o=>(y o).trans (G o)⟩
theorem Pres.mono{B g:Nat}{M M':Meta}{h h':Heap}{w w':World}(a:Pres B M h w M' h' w')(l:g<=B):Pres g M h w M' h' w':=
 {a with keep:=fun k i j=>a.keep k (h1C i l) j }
theorem Inv.drew{M:Meta}{h:Heap}{w:World}(a:Inv M h w):Inv M h w.drew where
 nid:=a.nid
 fresh:=a.fresh
 freshl:=a.freshl
 cells:=fun id cs e=>by
  obtain⟨b,rc,h1,h2,h3⟩:=a.cells id cs e;exact⟨b,rc,h1,⟨h2.at_,h2.free,h2.bsz⟩,h3⟩
 tips:=fun id n e=>by
  obtain⟨g,b,e',rc,h1,h2,h3⟩:=a.tips id n e;exact⟨g,b,e',rc,h1,⟨h2.at_,h2.free,h2.bsz⟩,h3⟩
 maps:=a.maps
 im:=a.im
 bsz:=a.bsz
 one:=a.one
 resv:=a.resv
theorem uF.mono{M M':Meta}(g:Ext M M'){i:List (IV×IV)}{ents:List MapEntry}(h:uF M i ents):uF M' i ents:=⟨h.1.mono g,h.2.mono g⟩
theorem lA{w w':World}{b g i:Nat}(h:w'.heap[g]?=w.heap[b]?):w'.frozen? ⟨g,i,none⟩=w.frozen? ⟨b,i,none⟩:=by
 simp only [World.frozen?,h]
theorem oD{w w':World}{b i:Nat}(h:w'.heap[b]?=w.heap[b]?):w'.cell? ⟨b,i,none⟩=w.cell? ⟨b,i,none⟩:=by
 simp only [World.cell?,h]
theorem cL{w:World}{b:Nat}{o:Obj}(h:w.heap[b]?=some o):b<w.heap.size:=by
 obtain⟨g,_⟩:=h7I.1 h;exact g
theorem Blk.lt{M:Meta}{w:World}{b:Nat}{rc:Array Value}(h:Blk M w b rc):b<w.heap.size:=by
 obtain⟨g,fz,h⟩:=h.at_;exact cL h
theorem Blk.keep{M M':Meta}{w w':World}{b:Nat}{rc:Array Value}(h:Blk M w b rc)(g:w'.heap[b]?=w.heap[b]?)(l:M'.bsz b=M.bsz b):Blk M' w' b rc:=by
 obtain⟨m,fz,h1⟩:=h.at_;exact⟨⟨m,fz,g.trans h1⟩,fun i j=>(lA g).trans (h.free i j),l.trans h.bsz⟩
theorem Inv.wb_lt{M:Meta}{h:Heap}{w:World}(a:Inv M h w){id b:Nat}(e:Wb M h id=some b):b<w.heap.size:=by
 unfold Wb at e
 cases hg:h.get id with
 |cells cs=>
  obtain⟨g,rc,h1,h2,_⟩:=a.cells id cs hg;simp [hg]at e;rw [h1]at e;simp at e;subst e;exact h2.lt
 |free=>simp [hg]at e
 |map es=>
  obtain⟨g,ents,c,h1,h2,_⟩:=a.maps id es hg;simp [hg]at e;rw [h1]at e;simp at e;subst e;exact cL h2
 |tip n=>
  obtain⟨_,g,e',rc,h1,h2,_⟩:=a.tips id n hg;simp [hg]at e;rw [h1]at e;simp at e;subst e;exact h2.lt
 |dead=>simp [hg]at e
structure NewBlk(w w':World)(o:Obj):Prop where
 new:w'.heap[w.heap.size]?=some o
 old: ∀b,b<w.heap.size->w'.heap[b]?=w.heap[b]?
 size:w'.heap.size=w.heap.size+1
 os:w'.os=w.os
 tape:w'.tape=w.tape
 output:w'.output=w.output
theorem NewBlk.alloc(w:World)(o:Obj):NewBlk w (w.alloc o) o where
 new:=by show(w.heap.push o)[w.heap.size]?=_;simp
 old:=fun b g=>by show(w.heap.push o)[b]?=_;rw [h5V,if_neg (by omega)]
 size:=by simp
 os:=rfl
 tape:=rfl
 output:=rfl
structure Fresh1(M M':Meta)(h:Heap)(w:World):Prop where
 loc: ∀i,i≠h.next->M'.loc i=M.loc i
 tip: ∀i,i≠h.next->M'.tip i=M.tip i
 cur: ∀i,i≠h.next->M'.cur i=M.cur i
 im: ∀b o,b≠w.heap.size->M'.im b o=M.im b o
 bsz: ∀b,b≠w.heap.size->M'.bsz b=M.bsz b
 nid:M'.nid=M.nid+1
theorem Fresh1.wb{M M':Meta}{h:Heap}{w:World}{x:IObj}(f:Fresh1 M M' h w){id:Nat}(g:id≠h.next):Wb M' (h.push x) id=Wb M h id:=by
 have i:(h.push x).get id=h.get id:=by rw [Heap.get_push,if_neg g]
 simp only [Wb,i,f.loc id g,f.cur id g]
section
variable {M:Meta} {h:Heap} {w w':World} (a:Inv M h w)
include a
theorem Inv.im_lt{b o:Nat}{v:Value}(e:M.im b o=some v):b<w.heap.size:=by
 have:=a.im b o v e;unfold World.cell? at this;split at this
 ·rename_i c _ _ g;exact cL g
 ·simp at this
theorem Fresh1.ext{M':Meta}(f:Fresh1 M M' h w):Ext M M' where
 nid:=by have:=f.nid;omega
 loc:=fun id b e=>by
  by_cases g:id=h.next
  ·have:=a.freshl id (by omega);rw [this]at e;simp at e
  ·rw [f.loc id g];exact e
 im:=fun b o v e=>by rw [f.im b o (by have:=a.im_lt e;omega)];exact e
 bsz:=fun b n e=>by rw [f.bsz b (by have:=a.bsz b n e;omega)];exact e
 tip:=fun i g=>by rw [f.tip i (by have:=a.nid;omega)];exact h1D _
 cur:=fun i g _=>by rw [f.cur i (by have:=a.nid;omega)]
theorem Fresh1.inv{M':Meta}{x:IObj}{o:Obj}(f:Fresh1 M M' h w)(j:NewBlk w w' o)
  (hlt: ∀i,h.next<i->M'.loc i=none) (hwb:Wb M' (h.push x) h.next=some w.heap.size)
  (him: ∀g v,M'.im w.heap.size g=some v->w'.cell? ⟨w.heap.size,g,none⟩=some v)
  (hc: ∀cs,x= .cells cs-> ∃rc,M'.loc h.next=some w.heap.size/\Blk M' w' w.heap.size rc/\cs.length<=rc.size/\eB M' cs (rc.toList.take cs.length)/\∀g,M'.im w.heap.size g=none)
  (ht: ∀n,x= .tip n->M'.tip h.next=n/\∃e rc,M'.cur h.next=(w.heap.size,e)/\Blk M' w' w.heap.size rc/\e<=rc.size/\∀g,e<=g->M'.im w.heap.size g=none)
  (hm: ∀r,x= .map r-> ∃ents clock,M'.loc h.next=some w.heap.size/\w'.heap[w.heap.size]?=some (.map ents clock)/\uF M' r ents.toList/\Brn ents clock) (hx:x≠ .free:=by simp):
  Inv M' (h.push x) w'/\Pres w.heap.size M h w M' (h.push x) w':=by
 have u:=f.ext a;refine⟨?_,?_⟩
 ·refine⟨?_,?_,?_,?_,?_,?_,?_,?_,?_,?_⟩
  ·rw [f.nid,a.nid,Heap.next_push]
  ·intro id p;rw [Heap.next_push]at p;rw [Heap.get_push,if_neg (by omega)];exact a.fresh id (by omega)
  ·intro id p;rw [Heap.next_push]at p;exact hlt id (by omega)
  ·intro id cs e
   by_cases hi:id=h.next
   ·subst hi;rw [Heap.get_push,if_pos rfl]at e;obtain⟨rc,h1,h2⟩:=hc cs e;exact⟨_,rc,h1,h2⟩
   ·rw [Heap.get_push,if_neg hi]at e;obtain⟨b,rc,h1,h2,h3,h4,z⟩:=a.cells id cs e;have l:=h2.lt;exact⟨b,rc,(f.loc id hi).trans h1,h2.keep (j.old b l) (f.bsz b (by omega)),h3,h4.mono u,fun g=>(f.im b g (by omega)).trans (z g)⟩
  ·intro id n e
   by_cases hi:id=h.next
   ·subst hi;rw [Heap.get_push,if_pos rfl]at e;obtain⟨y,e',rc,h1,h2⟩:=ht n e;exact⟨y,_,e',rc,h1,h2⟩
   ·rw [Heap.get_push,if_neg hi]at e;obtain⟨y,b,e',rc,h1,h2,h3,h4⟩:=a.tips id n e;have l:=h2.lt;exact⟨(f.tip id hi).trans y,b,e',rc,(f.cur id hi).trans h1,h2.keep (j.old b l) (f.bsz b (by omega)),h3,fun g D=>(f.im b g (by omega)).trans (h4 g D)⟩
  ·intro id r e
   by_cases hi:id=h.next
   ·subst hi;rw [Heap.get_push,if_pos rfl]at e;obtain⟨ents,c,h1,h2⟩:=hm r e;exact⟨_,ents,c,h1,h2⟩
   ·rw [Heap.get_push,if_neg hi]at e;obtain⟨b,ents,c,h1,h2,h3⟩:=a.maps id r e;exact⟨b,ents,c,(f.loc id hi).trans h1,(j.old b (cL h2)).trans h2,h3.1.mono u,h3.2⟩
  ·intro b g v e
   by_cases l:b=w.heap.size
   ·subst l;exact him g v e
   ·rw [f.im b g l]at e;rw [oD (j.old b (a.im_lt e))];exact a.im b g v e
  ·intro b n e;rw [j.size]
   by_cases l:b=w.heap.size
   ·omega
   ·rw [f.bsz b l]at e;have:=a.bsz b n e;omega
  ·intro id m b e e'
   by_cases hi:id=h.next
   ·by_cases hi':m=h.next
    ·omega
    ·rw [f.wb hi']at e';subst hi;rw [hwb]at e;simp at e;have:=a.wb_lt e';omega
   ·rw [f.wb hi]at e
    by_cases hi':m=h.next
    ·subst hi';rw [hwb]at e';simp at e';have:=a.wb_lt e;omega
    ·rw [f.wb hi']at e';exact a.one id m b e e'
  ·intro id e
   by_cases hi:id=h.next
   ·subst hi;rw [Heap.get_push,if_pos rfl]at e;exact absurd e hx
   ·rw [Heap.get_push,if_neg hi]at e;rw [f.loc id hi,f.tip id hi];exact a.resv id e
 ·refine⟨u,by rw [j.size];omega,j.os,j.tape,j.output,?_⟩;intro b l A;refine⟨j.old b l,?_,fun g=>f.im b g (by omega)⟩;rintro⟨id,e⟩
  by_cases hi:id=h.next
  ·subst hi;rw [hwb]at e;simp at e;omega
  ·rw [f.wb hi]at e;exact A ⟨id,e⟩
end
end Go.Pv
end
section
namespace Go.Pv
structure UpdS(S:Nat->Prop)(tb:Nat)(M:Meta)(h:Heap)(w:World)(M':Meta)(h':Heap)(w':World):Prop where
 get: ∀j,¬S j->h'.get j=h.get j
 loc: ∀j,¬S j->M'.loc j=M.loc j
 tip: ∀j,¬S j->M'.tip j=M.tip j
 cur: ∀j,¬S j->M'.cur j=M.cur j
 heap: ∀b,b<w.heap.size->b≠tb->w'.heap[b]?=w.heap[b]?
 im: ∀b o,b≠tb->M'.im b o=M.im b o
 bsz: ∀b,b≠tb->M'.bsz b=M.bsz b
 size:w.heap.size<=w'.heap.size
 os:w'.os=w.os
 tape:w'.tape=w.tape
 output:w'.output=w.output
 own:(∃i,S i/\Wb M h i=some tb) \/tb=w.heap.size
 wb: ∀i b,S i->Wb M' h' i=some b->b=tb
 one: ∀i i',S i->S i'->Wb M' h' i=some tb->Wb M' h' i'=some tb->i=i'
 ext:Ext M M'
 nid:M'.nid=h'.next
 fresh: ∀id,h'.next<=id->h'.get id= .dead
 freshl: ∀id,h'.next<=id->M'.loc id=none
 imtb: ∀off v,M'.im tb off=some v->w'.cell? ⟨tb,off,none⟩=some v
 bsztb: ∀n,M'.bsz tb=some n->tb<w'.heap.size
 cells: ∀i cs,S i->h'.get i= .cells cs-> ∃rc,M'.loc i=some tb/\Blk M' w' tb rc/\cs.length<=rc.size/\eB M' cs (rc.toList.take cs.length)/\∀off,M'.im tb off=none
 tips: ∀i n,S i->h'.get i= .tip n->M'.tip i=n/\∃e rc,M'.cur i=(tb,e)/\Blk M' w' tb rc/\e<=rc.size/\∀off,e<=off->M'.im tb off=none
 maps: ∀i es,S i->h'.get i= .map es-> ∃ents clock,M'.loc i=some tb/\w'.heap[tb]?=some (.map ents clock)/\uF M' es ents.toList/\Brn ents clock
 resv: ∀i,S i->h'.get i≠ .free
theorem UpdS.done{S:Nat->Prop}{tb:Nat}{M:Meta}{h:Heap}{w:World}{M':Meta}{h':Heap}{w':World}(u:UpdS S tb M h w M' h' w')(a:Inv M h w):
  Inv M' h' w'/\Pres w.heap.size M h w M' h' w':=by
 have A:=u.ext;have y: ∀j b,¬S j->Wb M h j=some b->b≠tb:=by
  intro j b z e l;subst l;rcases u.own with⟨i,g,e'⟩|e'
  ·exact z (a.one j i b e e'▸g)
  ·have:=a.wb_lt e;omega
 have same: ∀j,¬S j->Wb M' h' j=Wb M h j:=by
  intro j z;simp only [Wb,u.get j z,u.loc j z,u.cur j z]
 refine⟨⟨u.nid,u.fresh,u.freshl,?_,?_,?_,?_,?_,?_,fun id e=>?_⟩,⟨A,u.size,u.os,u.tape,u.output,?_⟩⟩
 ·intro id cs e
  by_cases g:S id
  ·obtain⟨rc,h1,h2⟩:=u.cells id cs g e;exact⟨tb,rc,h1,h2⟩
  ·rw [u.get id g]at e;obtain⟨b,rc,h1,h2,h3,h4,L⟩:=a.cells id cs e;have l:b≠tb:=y id b g (by simp [Wb,e,h1]);exact⟨b,rc,(u.loc id g).trans h1,h2.keep (u.heap b h2.lt l) (u.bsz b l),h3,h4.mono A,fun m=>(u.im b m l).trans (L m)⟩
 ·intro id n e
  by_cases g:S id
  ·obtain⟨D,e',rc,h1,h2⟩:=u.tips id n g e;exact⟨D,tb,e',rc,h1,h2⟩
  ·rw [u.get id g]at e;obtain⟨D,b,e',rc,h1,h2,h3,h4⟩:=a.tips id n e;have l:b≠tb:=y id b g (by simp [Wb,e,h1]);exact⟨(u.tip id g).trans D,b,e',rc,(u.cur id g).trans h1,h2.keep (u.heap b h2.lt l) (u.bsz b l),h3,fun m O=>(u.im b m l).trans (h4 m O)⟩
 ·intro id K e
  by_cases g:S id
  ·obtain⟨ents,c,h1,h2⟩:=u.maps id K g e;exact⟨tb,ents,c,h1,h2⟩
  ·rw [u.get id g]at e;obtain⟨b,ents,c,h1,h2,h3⟩:=a.maps id K e;have l:b≠tb:=y id b g (by simp [Wb,e,h1]);exact⟨b,ents,c,(u.loc id g).trans h1,(u.heap b (cL h2) l).trans h2,h3.1.mono A,h3.2⟩
 ·intro b m v e
  by_cases l:b=tb
  ·subst l;exact u.imtb m v e
  ·rw [u.im b m l]at e;rw [oD (u.heap b (a.im_lt e) l)];exact a.im b m v e
 ·intro b n e
  by_cases l:b=tb
  ·subst l;exact u.bsztb n e
  ·rw [u.bsz b l]at e;have:=a.bsz b n e;have:=u.size;omega
 ·intro id p b e e'
  by_cases g:S id
  ·have l:=u.wb id b g e;subst l
   by_cases hi':S p
   ·exact u.one id p g hi' e e'
   ·rw [same p hi']at e';exact absurd rfl (y p b hi' e')
  ·rw [same id g]at e
   by_cases hi':S p
   ·have l:=u.wb p b hi' e';exact absurd l (y id b g e)
   ·rw [same p hi']at e';exact a.one id p b e e'
 ·by_cases g:S id
  ·exact absurd e (u.resv id g)
  ·rw [u.get id g]at e;rw [u.loc id g,u.tip id g];exact a.resv id e
 ·intro b l G;have r:b≠tb:=by
   intro e;subst e;rcases u.own with⟨i,g,e'⟩|e'
   ·exact G ⟨i,e'⟩
   ·omega
  refine⟨u.heap b l r,?_,fun m=>u.im b m r⟩;rintro⟨id,e⟩
  by_cases g:S id
  ·exact r (u.wb id b g e)
  ·rw [same id g]at e;exact G ⟨id,e⟩
section
variable {M:Meta} {h:Heap} {w w':World} (a:Inv M h w)
theorem iP{rc:Array Value}{j:TypeId}{fz:Nat×Nat}{b:Nat}(l:w'.heap[b]?=some (.cells rc j fz))(m:fz.2<=fz.1\/rc.size<=fz.1)(i:Nat)(p:i<rc.size):w'.frozen? ⟨b,i,none⟩=false:=by
 obtain⟨r,g⟩:=fz;simp only [World.frozen?,l];simp only at m;simp;omega
include a
theorem yR{rc:Array Value}{u:TypeId}{fz:Nat×Nat}(p:NewBlk w w' (.cells rc u fz))(A:fz.2<=fz.1\/rc.size<=fz.1){cs:List IV}(r:cs.length<=rc.size)(D:eB M cs (rc.toList.take cs.length)):
  ∃M',Inv M' (h.push (.cells cs)) w'/\Pres w.heap.size M h w M' (h.push (.cells cs)) w'/\M'.loc h.next=some w.heap.size/\M'.bsz w.heap.size=some rc.size:=by
 let M':Meta:= {M with nid:=M.nid+1,loc:=fun i=>if i=h.next then some w.heap.size else M.loc i,bsz:=fun b=>if b=w.heap.size then some rc.size else M.bsz b }
 have l:Fresh1 M M' h w:=⟨fun i m=>by simp [M',m],fun _ _=>rfl,fun _ _=>rfl,fun _ _ _=>rfl,fun b z=>by simp [M',z],rfl⟩;have j: ∀g,M.im w.heap.size g=none:=by
  intro g
  cases e:M.im w.heap.size g with
  |none=>rfl
  |some v=>have:=a.im_lt e;omega
 have y:=l.ext a;have:=l.inv a (x:= .cells cs) p (fun i m=>by simp [M',show i≠h.next by omega,a.freshl i (by omega)])
  (by simp [Wb,Heap.get_push,M']) (fun g v e=>by simp [M',j]at e)
  (fun cs' e=>by
   simp at e;subst e;exact⟨rc,by simp [M'],⟨⟨u,fz,p.new⟩,fun i m=>iP p.new A i m,by simp [M']⟩,r,D.mono y,j⟩)
  (fun n e=>by simp at e) (fun G e=>by simp at e)
 exact⟨M',this.1,this.2,by simp [M'],by simp [M']⟩
theorem e4N{rc:Array Value}{A:TypeId}{fz:Nat×Nat}(r:NewBlk w w' (.cells rc A fz))(K:fz.2<=fz.1\/rc.size<=fz.1){cs:List IV}{len sz cap:Nat}(D:cs.length=len*sz)(j:len<=cap)(m:cap*sz<=rc.size)
  (hc:eB M cs (rc.toList.take cs.length)):
  ∃M',Inv M' (h.push (.tip (len*sz))) w'/\Pres w.heap.size M h w M' (h.push (.tip (len*sz))) w'/\VR M' (.vslice (some h.next) (len*sz) len sz cs) (.slice (some ⟨w.heap.size,0,none⟩) len cap):=by
 have y:cs.length<=rc.size:=by
  have:len*sz<=cap*sz:=h2Q _ j;omega
 let M':Meta:= {M with nid:=M.nid+1,tip:=fun i=>if i=h.next then cs.length else M.tip i,cur:=fun i=>if i=h.next then(w.heap.size,cs.length)else M.cur i,im:=fun b o=>if b=w.heap.size then(if o<cs.length then rc[o]? else none)else M.im b o,bsz:=fun b=>if b=w.heap.size then some rc.size else M.bsz b }
 have l:Fresh1 M M' h w:=⟨fun _ _=>rfl,fun i g=>by simp [M',g],fun i g=>by simp [M',g],fun b o u=>by simp [M',u],fun b u=>by simp [M',u],rfl⟩;have G:=l.ext a;rw [<-D];have:=l.inv a (x:= .tip cs.length) r (fun i g=>a.freshl i (by omega))
  (by simp [Wb,Heap.get_push,M']) (fun z v e=>by
   simp only [M',if_true]at e;split at e
   ·simp only [World.cell?,r.new,h3S,h1X,if_false];exact e
   ·simp at e)
  (fun cs' e=>by simp at e)
  (fun n e=>by
   simp at e;subst e;exact⟨by simp [M'],cs.length,rc,by simp [M'],⟨⟨A,fz,r.new⟩,fun i g=>iP r.new K i g,by simp [M']⟩,y,fun z L=>by simp [M'];omega⟩)
  (fun O e=>by simp at e)
 refine⟨M',this.1,this.2,?_⟩;have p:=hc.mono G;refine .vslice ⟨w.heap.size,0,none⟩ (fun i=>rc.getD i undef) D j (.inr ⟨rfl,rc.size,by simp [M'],by simpa using m⟩) ?_ ?_ p.2 ?_ (by simp)
 ·intro i g;simp [M',g,show i<rc.size by omega]
 ·intro i g;have:=p.1.2 i g (by simp;omega);simpa [show i<rc.size by omega]using this
 ·intro i e;simp at e;subst e;exact⟨by show h.next<M.nid+1;rw [a.nid];omega,h1D _,by simp [M'],fun _=> .inr (by simp [M'])⟩
theorem e4O{rc:Array Value}{A:TypeId}{fz:Nat×Nat}(m:NewBlk w w' (.cells rc A fz)){cs:List IV}{len sz:Nat}(G:cs.length=len*sz)(L:0<sz)(p:eB M cs rc.toList):
  ∃M',Inv M' h w'/\Pres w.heap.size M h w M' h w'/\VR M' (.vslice none 1 len sz cs) (.slice (some ⟨w.heap.size,0,none⟩) len len):=by
 have D:rc.size=cs.length:=by have:=p.len;simpa using this.symm
 let M':Meta:= {M with im:=fun b o=>if b=w.heap.size then rc[o]? else M.im b o,bsz:=fun b=>if b=w.heap.size then some rc.size else M.bsz b }
 have u:Ext M M':=⟨h1D _,fun _ _ x=>x,fun c o v x=>by
  simp only [M'];rw [if_neg (by have:=a.im_lt x;omega)];exact x,fun c z x=>by
  simp only [M'];rw [if_neg (by have:=a.bsz c z x;omega)];exact x,fun _ _=>h1D _,fun _ _ _=>rfl⟩
 have g:Inv M' h w'/\Pres w.heap.size M h w M' h w':=by
  refine UpdS.done (S:=fun _=>False) (tb:=w.heap.size) ?_ a;refine {
   get:=fun _ _=>rfl,loc:=fun _ _=>rfl,tip:=fun _ _=>rfl,cur:=fun _ _=>rfl,heap:=fun j K _=>m.old j K,im:=fun c o p=>by simp [M',p],bsz:=fun c p=>by simp [M',p],size:=(by rw [m.size];omega),
   os:=m.os,tape:=m.tape,output:=m.output,own:= .inr rfl,wb:=fun _ _ l=>l.elim,one:=fun _ _ l=>l.elim,ext:=u,nid:=a.nid,fresh:=a.fresh,freshl:=a.freshl,imtb:=?_,bsztb:=?_,cells:=fun _ _ l=>l.elim,tips:=fun _ _ l=>l.elim,maps:=fun _ _ l=>l.elim,resv:=fun _ l=>l.elim }
  ·intro O v x;simp only [M',if_true]at x;simp only [World.cell?,m.new,h3S,h1X,if_false];exact x
  ·intro z x;rw [m.size];omega
 refine⟨M',g.1,g.2,?_⟩;have r:=p.mono u;refine .vslice ⟨w.heap.size,0,none⟩ (fun i=>rc.getD i undef) G (h1D _) (.inr ⟨rfl,rc.size,by simp [M'],by simp;omega⟩) ?_ ?_ r.2 (by simp) (fun _=> .inr ⟨rfl,rfl,L⟩)
 ·intro i y;simp [M',show i<rc.size by omega]
 ·intro i y;have:=r.1.2 i y (by simp;omega);simpa [show i<rc.size by omega]using this
theorem e4P(m:NewBlk w w' (.map #[] 0)): ∃M',Inv M' (h.push (.map [])) w'/\Pres w.heap.size M h w M' (h.push (.map [])) w'/\M'.loc h.next=some w.heap.size:=by
 let M':Meta:= {M with nid:=M.nid+1,loc:=fun i=>if i=h.next then some w.heap.size else M.loc i }
 have l:Fresh1 M M' h w:=⟨fun i p=>by simp [M',p],fun _ _=>rfl,fun _ _=>rfl,fun _ _ _=>rfl,fun _ _=>rfl,rfl⟩;have j: ∀g,M.im w.heap.size g=none:=by
  intro g
  cases e:M.im w.heap.size g with
  |none=>rfl
  |some v=>have:=a.im_lt e;omega
 have:=l.inv a (x:= .map []) m (fun i p=>by simp [M',show i≠h.next by omega,a.freshl i (by omega)])
  (by simp [Wb,Heap.get_push,M']) (fun g v e=>by simp [M',j]at e)
  (fun cs' e=>by simp at e) (fun n e=>by simp at e)
  (fun r e=>by simp at e;subst e;exact⟨#[],0,by simp [M'],m.new,⟨cW.nil _,cW.nil _⟩,Brn.nil⟩)
 exact⟨M',this.1,this.2,by simp [M']⟩
theorem a7M{id b:Nat}{cs cs':List IV}{g:Array Value}(p:h.get id= .cells cs)(r:M.loc id=some b)(G: ∀k,k≠b->w'.heap[k]?=w.heap[k]?)(D:w'.heap.size=w.heap.size)
  (hr:w'.os=w.os/\w'.tape=w.tape/\w'.output=w.output) (hB:Blk M w' b g) (hle:cs'.length<=g.size) (hc:eB M cs' (g.toList.take cs'.length)):
  Inv M (h.set id (.cells cs')) w'/\Pres w.heap.size M h w M (h.set id (.cells cs')) w':=by
 obtain⟨L,rc,h1,h2,h3,h4,y⟩:=a.cells id cs p;rw [r]at h1;simp at h1;subst h1;refine UpdS.done (S:=fun j=>j=id) (tb:=b) ?_ a;refine {
  get:=fun j m=>by rw [Heap.get_set,if_neg m],loc:=fun _ _=>rfl,tip:=fun _ _=>rfl,cur:=fun _ _=>rfl,heap:=fun k _ u=>G k u,im:=fun _ _ _=>rfl,bsz:=fun _ _=>rfl,size:=(by omega),
  os:=hr.1,tape:=hr.2.1,output:=hr.2.2,own:= .inl ⟨id,rfl,by simp [Wb,p,r]⟩,wb:=?_,one:=fun i O e e' _ _=>e.trans e'.symm,ext:=Ext.refl M,nid:=a.nid,fresh:=?_,freshl:=a.freshl,imtb:=?_,bsztb:=?_,cells:=?_,tips:=?_,maps:=?_,resv:=fun i A e=>by subst A;simp [Heap.get_set]at e }
 ·intro i k e ew;subst e;simp [Wb,Heap.get_set,r]at ew;exact ew.symm
 ·intro j m;rw [Heap.next_set]at m;rw [Heap.get_set,if_neg]
  ·exact a.fresh j m
  ·intro e;subst e;rw [a.fresh j m]at p;simp at p
 ·intro K v e;rw [y]at e;simp at e
 ·intro n e;exact D▸a.bsz b n e
 ·intro i z e l;subst e;simp [Heap.get_set]at l;subst l;exact⟨g,r,hB,hle,hc,y⟩
 ·intro i n e l;subst e;simp [Heap.get_set]at l
 ·intro i n e l;subst e;simp [Heap.get_set]at l
theorem b0F{id b:Nat}{A es':List (IV×IV)}{ents:Array MapEntry}{clock:Nat}(m:h.get id= .map A)(p:M.loc id=some b)(K: ∀k,k≠b->w'.heap[k]?=w.heap[k]?)(G:w'.heap.size=w.heap.size)
  (hr:w'.os=w.os/\w'.tape=w.tape/\w'.output=w.output) (hB:w'.heap[b]?=some (.map ents clock)) (hc:uF M es' ents.toList/\Brn ents clock):
  Inv M (h.set id (.map es')) w'/\Pres w.heap.size M h w M (h.set id (.map es')) w':=by
 obtain⟨L,y,O,h1,h2,h3⟩:=a.maps id A m;rw [p]at h1;simp at h1;subst h1;refine UpdS.done (S:=fun j=>j=id) (tb:=b) ?_ a;refine {
  get:=fun j l=>by rw [Heap.get_set,if_neg l],loc:=fun _ _=>rfl,tip:=fun _ _=>rfl,cur:=fun _ _=>rfl,heap:=fun k _ r=>K k r,im:=fun _ _ _=>rfl,bsz:=fun _ _=>rfl,size:=(by omega),
  os:=hr.1,tape:=hr.2.1,output:=hr.2.2,own:= .inl ⟨id,rfl,by simp [Wb,m,p]⟩,wb:=?_,one:=fun i T e e' _ _=>e.trans e'.symm,ext:=Ext.refl M,nid:=a.nid,fresh:=?_,freshl:=a.freshl,imtb:=?_,bsztb:=?_,cells:=?_,tips:=?_,maps:=?_,resv:=fun i D e=>by subst D;simp [Heap.get_set]at e }
 ·intro i k e ew;subst e;simp [Wb,Heap.get_set,p]at ew;exact ew.symm
 ·intro j l;rw [Heap.next_set]at l;rw [Heap.get_set,if_neg]
  ·exact a.fresh j l
  ·intro e;subst e;rw [a.fresh j l]at m;simp at m
 ·intro u v e;have:=a.im b u v e;simp [World.cell?,h2]at this
 ·intro n e;exact G▸a.bsz b n e
 ·intro i n e g;subst e;simp [Heap.get_set]at g
 ·intro i n e g;subst e;simp [Heap.get_set]at g
 ·intro i z e g;subst e;simp [Heap.get_set]at g;subst g;exact⟨ents,clock,p,hB,hc⟩
theorem d3G{id e k b g:Nat}{rc l:Array Value}(D:h.get id= .tip e)(y:M.cur id=(b,g))(Z:Blk M w b rc)(u: ∃O fz,w'.heap[b]?=some (.cells l O fz))(G: ∀i,i<l.size->w'.frozen? ⟨b,i,none⟩=false)
  (hsz:l.size=rc.size) (hpos:g+k<=rc.size) (hold: ∀i,i<g->l[i]?=rc[i]?) (hk0:0<k)
  (hk: ∀j,j≠b->w'.heap[j]?=w.heap[j]?) (hs:w'.heap.size=w.heap.size) (hr:w'.os=w.os/\w'.tape=w.tape/\w'.output=w.output):
  ∃M',Inv M' (h.set id (.tip (e+k))) w'/\Pres w.heap.size M h w M' (h.set id (.tip (e+k))) w'/\M'.tip id=e+k/\M'.cur id=(b,g+k)/\M'.nid=M.nid/\M'.bsz=M.bsz/\
   (∀i,i<k->M'.im b (g+i)=l[g+i]?):=by
 obtain⟨h0,b',e',a1,h1,h2,h3,h4⟩:=a.tips id e D;rw [y]at h1;simp at h1;obtain⟨rfl,rfl⟩:=h1;obtain⟨O,fz,u⟩:=u
 let M':Meta:= {M with tip:=fun i=>if i=id then e+k else M.tip i,cur:=fun i=>if i=id then(b,g+k)else M.cur i,im:=fun c o=>if c=b/\g<=o/\o<g+k then l[o]? else M.im c o }
 have X:id<h.next:=by
  rcases h2D id h.next with V|V
  ·exact V
  ·rw [a.fresh id V]at D;simp at D
 have hE:Ext M M':=⟨h1D _,fun _ _ x=>x,fun c o v x=>by
  simp only [M'];split
  ·rename_i K;obtain⟨rfl,q1,q2⟩:=K;rw [h4 o q1]at x;simp at x
  ·exact x,fun _ _ x=>x,fun i A=>by
   simp only [M'];split
   ·rename_i e;subst e;omega
   ·exact h1D _,fun i A Y=>by
   simp only [M']at Y⊢;split at Y
   ·rename_i e;subst e;omega
   ·rename_i e;rw [if_neg e]⟩
 refine⟨M',?_⟩;have p:Inv M' (h.set id (.tip (e+k))) w'/\Pres w.heap.size M h w M' (h.set id (.tip (e+k))) w':=by
  refine UpdS.done (S:=fun j=>j=id) (tb:=b) ?_ a;refine {
   get:=fun j r=>by rw [Heap.get_set,if_neg r],loc:=fun _ _=>rfl,tip:=fun j r=>by simp [M',r],cur:=fun j r=>by simp [M',r],heap:=fun j _ r=>hk j r,im:=fun c o K=>by simp [M',K],bsz:=fun _ _=>rfl,size:=(by omega),
   os:=hr.1,tape:=hr.2.1,output:=hr.2.2,own:= .inl ⟨id,rfl,by simp [Wb,D,y]⟩,wb:=?_,one:=fun i i' e e' _ _=>e.trans e'.symm,ext:=hE,nid:=a.nid,fresh:=?_,freshl:=a.freshl,imtb:=?_,bsztb:=?_,cells:=?_,tips:=?_,maps:=?_,resv:=fun i A e=>by subst A;simp [Heap.get_set]at e }
  ·intro i c e ew;subst e;simp [Wb,Heap.get_set,M']at ew;exact ew.symm
  ·intro j r;rw [Heap.next_set]at r;rw [Heap.get_set,if_neg (by omega)];exact a.fresh j r
  ·intro m v x;simp only [M']at x;simp only [World.cell?,u,h3S,h1X,if_false];split at x
   ·exact x
   ·have:=a.im b m v x;have T:m<g:=by
     rcases h2D m g with q|q
     ·exact q
     ·rw [h4 m q]at x;simp at x
    obtain⟨a2,a0,L⟩:=Z.at_;simp only [World.cell?,L,h3S,h1X,if_false]at this;rw [hold m T];exact this
  ·intro n x;exact hs▸a.bsz b n x
  ·intro i n e z;subst e;simp [Heap.get_set]at z
  ·intro i n e z;subst e;simp [Heap.get_set]at z;subst z;refine⟨by simp [M'],g+k,l,by simp [M'],⟨⟨O,fz,u⟩,G,by show M.bsz b=_;rw [Z.bsz,hsz]⟩,by omega,fun m ho=>?_⟩;simp only [M'];rw [if_neg (by omega)];exact h4 m (by omega)
  ·intro i n e z;subst e;simp [Heap.get_set]at z
 refine⟨p.1,p.2,by simp [M'],by simp [M'],rfl,rfl,fun i A=>?_⟩;simp only [M'];rw [if_pos ⟨trivial,by omega,by omega⟩]
theorem e4Q{id e k n:Nat}{rc:Array Value}{L:TypeId}{fz:Nat×Nat}(D:h.get id= .tip e)(m:NewBlk w w' (.cells rc L fz))(X:fz.2<=fz.1\/rc.size<=fz.1)(V:n<=rc.size)(Y:0<k):
  ∃M',Inv M' (h.set id (.tip (e+k))) w'/\Pres w.heap.size M h w M' (h.set id (.tip (e+k))) w'/\M'.tip id=e+k/\M'.cur id=(w.heap.size,n)/\M'.nid=M.nid/\M'.bsz w.heap.size=some rc.size/\
   (∀i,i<n->M'.im w.heap.size i=rc[i]?):=by
 obtain⟨h0,Z,e',T,h1,h2,h3,h4⟩:=a.tips id e D
 let M':Meta:= {M with tip:=fun i=>if i=id then e+k else M.tip i,cur:=fun i=>if i=id then(w.heap.size,n)else M.cur i,im:=fun c o=>if c=w.heap.size then(if o<n then rc[o]? else none)else M.im c o,bsz:=fun b=>if b=w.heap.size then some rc.size else M.bsz b }
 have G:id<h.next:=by
  rcases h2D id h.next with z|z
  ·exact z
  ·rw [a.fresh id z]at D;simp at D
 have O:Ext M M':=⟨h1D _,fun _ _ x=>x,fun c o v x=>by
  simp only [M'];rw [if_neg (by have:=a.im_lt x;omega)];exact x,fun c A x=>by
  simp only [M'];rw [if_neg (by have:=a.bsz c A x;omega)];exact x,fun i p=>by
   simp only [M'];split
   ·rename_i e;subst e;omega
   ·exact h1D _,fun i p K=>by
   simp only [M']at K⊢;split at K
   ·rename_i e;subst e;omega
   ·rename_i e;rw [if_neg e]⟩
 refine⟨M',?_⟩;have g:Inv M' (h.set id (.tip (e+k))) w'/\Pres w.heap.size M h w M' (h.set id (.tip (e+k))) w':=by
  refine UpdS.done (S:=fun j=>j=id) (tb:=w.heap.size) ?_ a;refine {
   get:=fun j l=>by rw [Heap.get_set,if_neg l],loc:=fun _ _=>rfl,tip:=fun j l=>by simp [M',l],cur:=fun j l=>by simp [M',l],heap:=fun j l _=>m.old j l,im:=fun c o u=>by simp [M',u],bsz:=fun c u=>by simp [M',u],size:=(by rw [m.size];omega),
   os:=m.os,tape:=m.tape,output:=m.output,own:= .inr rfl,wb:=?_,one:=fun i i' e e' _ _=>e.trans e'.symm,ext:=O,nid:=a.nid,fresh:=?_,freshl:=a.freshl,imtb:=?_,bsztb:=?_,cells:=?_,tips:=?_,maps:=?_,resv:=fun i p e=>by subst p;simp [Heap.get_set]at e }
  ·intro i c e ew;subst e;simp [Wb,Heap.get_set,M']at ew;exact ew.symm
  ·intro j l;rw [Heap.next_set]at l;rw [Heap.get_set,if_neg (by omega)];exact a.fresh j l
  ·intro y v x;simp only [M',if_true]at x;simp only [World.cell?,m.new,h3S,h1X,if_false];split at x
   ·exact x
   ·simp at x
  ·intro A x;rw [m.size];omega
  ·intro i n e r;subst e;simp [Heap.get_set]at r
  ·intro i A e r;subst e;simp [Heap.get_set]at r;subst r;exact⟨by simp [M'],n,rc,by simp [M'],⟨⟨L,fz,m.new⟩,fun i p=>iP m.new X i p,by simp [M']⟩,V,fun y ho=>by simp [M'];omega⟩
  ·intro i n e r;subst e;simp [Heap.get_set]at r
 refine⟨g.1,g.2,by simp [M'],by simp [M'],rfl,by simp [M'],fun i p=>?_⟩;simp only [M',if_true];rw [if_pos p]
theorem b9X{id b:Nat}{cs cs':List IV}{l:Array Value}(r:h.get id= .cells cs)(L:M.loc id=some b)(Y: ∀k,k≠b->w'.heap[k]?=w.heap[k]?)(V:w'.heap.size=w.heap.size)
  (hr:w'.os=w.os/\w'.tape=w.tape/\w'.output=w.output) (hB:Blk M w' b l) (hle:cs'.length<=l.size) (hc:eB M cs' (l.toList.take cs'.length)):
  ∃M',Inv M' ((h.set id .dead).push (.cells cs')) w'/\Pres w.heap.size M h w M' ((h.set id .dead).push (.cells cs')) w'/\M'.loc h.next=some b/\M'.bsz b=some l.size:=by
 obtain⟨Z,rc,h1,h2,h3,h4,O⟩:=a.cells id cs r;rw [L]at h1;simp at h1;subst h1;have D:id<h.next:=by
  rcases h2D id h.next with z|z
  ·exact z
  ·rw [a.fresh id z]at r;simp at r
 let M':Meta:= {M with nid:=M.nid+1,loc:=fun i=>if i=h.next then some b else M.loc i }
 have K:Ext M M':=⟨by simp [M'],fun i c x=>by
  simp only [M'];rw [if_neg];exact x;intro e;subst e;rw [a.freshl _ (h1D _)]at x;simp at x,fun _ _ _ x=>x,fun _ _ x=>x,fun _ _=>h1D _,fun _ _ _=>rfl⟩
 refine⟨M',?_⟩;have g: ∀j,((h.set id .dead).push (.cells cs')).get j=if j=h.next then .cells cs' else if j=id then .dead else h.get j:=by
  intro j;rw [Heap.get_push,Heap.next_set,Heap.get_set]
 have m:Inv M' ((h.set id .dead).push (.cells cs')) w'/\Pres w.heap.size M h w M' ((h.set id .dead).push (.cells cs')) w':=by
  refine UpdS.done (S:=fun j=>j=id\/j=h.next) (tb:=b) ?_ a;have G:Wb M' ((h.set id .dead).push (.cells cs')) id=none:=by simp [Wb,g,show id≠h.next by omega]
  have X:Wb M' ((h.set id .dead).push (.cells cs')) h.next=some b:=by simp [Wb,g,M']
  refine {
   get:=fun j p=>by rw [g,if_neg (fun e=>p (.inr e)),if_neg (fun e=>p (.inl e))],loc:=fun j p=>by simp [M',show j≠h.next from fun e=>p (.inr e)],tip:=fun _ _=>rfl,cur:=fun _ _=>rfl,heap:=fun k _ u=>Y k u,im:=fun _ _ _=>rfl,bsz:=fun _ _=>rfl,size:=(by omega),
   os:=hr.1,tape:=hr.2.1,output:=hr.2.2,own:= .inl ⟨id,.inl rfl,by simp [Wb,r,L]⟩,wb:=?_,one:=?_,ext:=K,nid:=?_,fresh:=?_,freshl:=?_,imtb:=?_,bsztb:=?_,cells:=?_,tips:=?_,maps:=?_,resv:=fun i T e=>by rw [g]at e;rcases T with rfl|rfl<;>(repeat' split at e)<;>simp_all }
  ·rintro i c (rfl|rfl) ew
   ·rw [G]at ew;simp at ew
   ·rw [X]at ew;simp at ew;exact ew.symm
  ·rintro i i' (rfl|rfl) (rfl|rfl) e1 e2
   ·rfl
   ·rw [G]at e1;simp at e1
   ·rw [G]at e2;simp at e2
   ·rfl
  ·show M.nid+1=_;rw [a.nid];rfl
  ·intro j p;have A:h.next+1<=j:=p;rw [g,if_neg (by omega),if_neg (by omega)];exact a.fresh j (by omega)
  ·intro j p;have A:h.next+1<=j:=p;simp only [M'];rw [if_neg (by omega)];exact a.freshl j (by omega)
  ·intro y v e;have e':M.im b y=some v:=e;rw [O]at e';simp at e'
  ·intro n e;exact V▸a.bsz b n e
  ·rintro i cs'' (rfl|rfl) eg
   ·rw [g,if_neg (by omega)]at eg;simp at eg
   ·rw [g,if_pos rfl]at eg;simp at eg;subst eg;exact⟨l,by simp [M'],⟨hB.at_,hB.free,hB.bsz⟩,hle,hc.mono K,O⟩
  ·rintro i n (rfl|rfl) eg
   ·rw [g,if_neg (by omega)]at eg;simp at eg
   ·rw [g,if_pos rfl]at eg;simp at eg
  ·rintro i n (rfl|rfl) eg
   ·rw [g,if_neg (by omega)]at eg;simp at eg
   ·rw [g,if_pos rfl]at eg;simp at eg
 exact⟨m.1,m.2,by simp [M'],hB.bsz⟩
theorem c9R{id:Nat}{cs cs':List IV}{rc:Array Value}{V:TypeId}{fz:Nat×Nat}(X:h.get id= .cells cs)(u:NewBlk w w' (.cells rc V fz))(Z:fz.2<=fz.1\/rc.size<=fz.1)(z:cs'.length<=rc.size)(A:eB M cs' (rc.toList.take cs'.length)):
  ∃M',Inv M' ((h.set id .dead).push (.cells cs')) w'/\Pres w.heap.size M h w M' ((h.set id .dead).push (.cells cs')) w'/\M'.loc h.next=some w.heap.size/\M'.bsz w.heap.size=some rc.size:=by
 have L:id<h.next:=by
  rcases h2D id h.next with G|G
  ·exact G
  ·rw [a.fresh id G]at X;simp at X
 let M':Meta:= {M with nid:=M.nid+1,loc:=fun i=>if i=h.next then some w.heap.size else M.loc i,bsz:=fun b=>if b=w.heap.size then some rc.size else M.bsz b }
 have T:Ext M M':=⟨by simp [M'],fun i c x=>by
  simp only [M'];rw [if_neg];exact x;intro e;subst e;rw [a.freshl _ (h1D _)]at x;simp at x,fun _ _ _ x=>x,fun c n x=>by
  simp only [M'];rw [if_neg (by have:=a.bsz c n x;omega)];exact x,fun _ _=>h1D _,fun _ _ _=>rfl⟩
 have r: ∀m,M.im w.heap.size m=none:=by
  intro m
  cases e:M.im w.heap.size m with
  |none=>rfl
  |some v=>have:=a.im_lt e;omega
 refine⟨M',?_⟩;have g: ∀j,((h.set id .dead).push (.cells cs')).get j=if j=h.next then .cells cs' else if j=id then .dead else h.get j:=by
  intro j;rw [Heap.get_push,Heap.next_set,Heap.get_set]
 have l:Inv M' ((h.set id .dead).push (.cells cs')) w'/\Pres w.heap.size M h w M' ((h.set id .dead).push (.cells cs')) w':=by
  refine UpdS.done (S:=fun j=>j=id\/j=h.next) (tb:=w.heap.size) ?_ a;have O:Wb M' ((h.set id .dead).push (.cells cs')) id=none:=by simp [Wb,g,show id≠h.next by omega]
  have Y:Wb M' ((h.set id .dead).push (.cells cs')) h.next=some w.heap.size:=by simp [Wb,g,M']
  refine {
   get:=fun j p=>by rw [g,if_neg (fun e=>p (.inr e)),if_neg (fun e=>p (.inl e))],loc:=fun j p=>by simp [M',show j≠h.next from fun e=>p (.inr e)],tip:=fun _ _=>rfl,cur:=fun _ _=>rfl,heap:=fun k D _=>u.old k D,im:=fun _ _ _=>rfl,bsz:=fun c A=>by simp [M',A],size:=(by rw [u.size];omega),
   os:=u.os,tape:=u.tape,output:=u.output,own:= .inr rfl,wb:=?_,one:=?_,ext:=T,nid:=?_,fresh:=?_,freshl:=?_,imtb:=?_,bsztb:=?_,cells:=?_,tips:=?_,maps:=?_,resv:=fun i y e=>by rw [g]at e;rcases y with rfl|rfl<;>(repeat' split at e)<;>simp_all }
  ·rintro i c (rfl|rfl) ew
   ·rw [O]at ew;simp at ew
   ·rw [Y]at ew;simp at ew;exact ew.symm
  ·rintro i i' (rfl|rfl) (rfl|rfl) e1 e2
   ·rfl
   ·rw [O]at e1;simp at e1
   ·rw [O]at e2;simp at e2
   ·rfl
  ·show M.nid+1=_;rw [a.nid];rfl
  ·intro j p;have K:h.next+1<=j:=p;rw [g,if_neg (by omega),if_neg (by omega)];exact a.fresh j (by omega)
  ·intro j p;have K:h.next+1<=j:=p;simp only [M'];rw [if_neg (by omega)];exact a.freshl j (by omega)
  ·intro m v e;have e':M.im w.heap.size m=some v:=e;rw [r]at e';simp at e'
  ·intro n e;rw [u.size];omega
  ·rintro i cs'' (rfl|rfl) eg
   ·rw [g,if_neg (by omega)]at eg;simp at eg
   ·rw [g,if_pos rfl]at eg;simp at eg;subst eg;exact⟨rc,by simp [M'],⟨⟨V,fz,u.new⟩,fun i y=>iP u.new Z i y,by simp [M']⟩,z,A.mono T,r⟩
  ·rintro i n (rfl|rfl) eg
   ·rw [g,if_neg (by omega)]at eg;simp at eg
   ·rw [g,if_pos rfl]at eg;simp at eg
  ·rintro i n (rfl|rfl) eg
   ·rw [g,if_neg (by omega)]at eg;simp at eg
   ·rw [g,if_pos rfl]at eg;simp at eg
 exact⟨l.1,l.2,by simp [M'],by simp [M']⟩
end
end Go.Pv
end
section
namespace Go.Pv
open Go
section
variable {M:Meta} {h:Heap} {w w':World} (a:Inv M h w)
include a
theorem Inv.res_lt{n:Nat}(i:h.get n= .free):n<h.next:=by
 rcases h2D n h.next with g|g
 ·exact g
 ·rw [a.fresh n g]at i;simp at i
theorem Inv.im_none(g:Nat):M.im w.heap.size g=none:=by
 cases e:M.im w.heap.size g with
 |none=>rfl
 |some v=>have:=a.im_lt e;omega
theorem a7N{n:Nat}(L:h.get n= .free){rc:Array Value}{K:TypeId}{fz:Nat×Nat}(l:NewBlk w w' (.cells rc K fz))(V:fz.2<=fz.1\/rc.size<=fz.1){cs:List IV}(A:cs.length<=rc.size)(D:eB M cs (rc.toList.take cs.length)):
  ∃M',Inv M' (h.set n (.cells cs)) w'/\Pres w.heap.size M h w M' (h.set n (.cells cs)) w'/\M'.loc n=some w.heap.size/\M'.bsz w.heap.size=some rc.size:=by
 obtain⟨r1,X⟩:=a.resv n L;have T:=a.res_lt L
 let M':Meta:= {M with loc:=fun i=>if i=n then some w.heap.size else M.loc i,bsz:=fun b=>if b=w.heap.size then some rc.size else M.bsz b }
 have G:Ext M M':=⟨h1D _,fun i c x=>by
  simp only [M'];rw [if_neg];exact x;intro e;subst e;rw [r1]at x;simp at x,fun _ _ _ x=>x,fun c k x=>by
  simp only [M'];rw [if_neg (by have:=a.bsz c k x;omega)];exact x,fun _ _=>h1D _,fun _ _ _=>rfl⟩
 have g:Inv M' (h.set n (.cells cs)) w'/\Pres w.heap.size M h w M' (h.set n (.cells cs)) w':=by
  refine UpdS.done (S:=fun j=>j=n) (tb:=w.heap.size) ?_ a;refine {
   get:=fun j m=>by rw [Heap.get_set,if_neg m],loc:=fun j m=>by simp [M',show j≠n from m],tip:=fun _ _=>rfl,cur:=fun _ _=>rfl,heap:=fun k y _=>l.old k y,im:=fun _ _ _=>rfl,bsz:=fun c D=>by simp [M',D],size:=(by rw [l.size];omega),
   os:=l.os,tape:=l.tape,output:=l.output,own:= .inr rfl,wb:=?_,one:=fun i Y e e' _ _=>e.trans e'.symm,ext:=G,nid:=a.nid,fresh:=?_,freshl:=?_,imtb:=?_,bsztb:=?_,cells:=?_,tips:=?_,maps:=?_,resv:=fun i z e=>by subst z;simp [Heap.get_set]at e }
  ·rintro i c rfl ew;simp [Wb,Heap.get_set,M']at ew;exact ew.symm
  ·intro j m;have r:h.next<=j:=m;rw [Heap.get_set,if_neg (by omega)];exact a.fresh j r
  ·intro j m;have r:h.next<=j:=m;simp only [M'];rw [if_neg (by omega)];exact a.freshl j r
  ·intro p v e;have e':M.im w.heap.size p=some v:=e;rw [a.im_none]at e';simp at e'
  ·intro k e;rw [l.size];omega
  ·rintro i O rfl u;simp [Heap.get_set]at u;subst u;exact⟨rc,by simp [M'],⟨⟨K,fz,l.new⟩,fun i z=>iP l.new V i z,by simp [M']⟩,A,D.mono G,fun p=>a.im_none p⟩
  ·rintro i k rfl u;simp [Heap.get_set]at u
  ·rintro i k rfl u;simp [Heap.get_set]at u
 exact⟨M',g.1,g.2,by simp [M'],by simp [M']⟩
theorem e4R{n:Nat}(z:h.get n= .free)(l:NewBlk w w' (.map #[] 0)):
  ∃M',Inv M' (h.set n (.map [])) w'/\Pres w.heap.size M h w M' (h.set n (.map [])) w'/\M'.loc n=some w.heap.size:=by
 obtain⟨r1,L⟩:=a.resv n z;have K:=a.res_lt z
 let M':Meta:= {M with loc:=fun i=>if i=n then some w.heap.size else M.loc i }
 have D:Ext M M':=⟨h1D _,fun i c x=>by
  simp only [M'];rw [if_neg];exact x;intro e;subst e;rw [r1]at x;simp at x,fun _ _ _ x=>x,fun c k x=>x,fun _ _=>h1D _,fun _ _ _=>rfl⟩
 have g:Inv M' (h.set n (.map [])) w'/\Pres w.heap.size M h w M' (h.set n (.map [])) w':=by
  refine UpdS.done (S:=fun j=>j=n) (tb:=w.heap.size) ?_ a;refine {
   get:=fun j m=>by rw [Heap.get_set,if_neg m],loc:=fun j m=>by simp [M',show j≠n from m],tip:=fun _ _=>rfl,cur:=fun _ _=>rfl,heap:=fun k u _=>l.old k u,im:=fun _ _ _=>rfl,bsz:=fun c V=>rfl,size:=(by rw [l.size];omega),
   os:=l.os,tape:=l.tape,output:=l.output,own:= .inr rfl,wb:=?_,one:=fun i O e e' _ _=>e.trans e'.symm,ext:=D,nid:=a.nid,fresh:=?_,freshl:=?_,imtb:=?_,bsztb:=?_,cells:=?_,tips:=?_,maps:=?_,resv:=fun i G e=>by subst G;simp [Heap.get_set]at e }
  ·rintro i c rfl ew;simp [Wb,Heap.get_set,M']at ew;exact ew.symm
  ·intro j m;have p:h.next<=j:=m;rw [Heap.get_set,if_neg (by omega)];exact a.fresh j p
  ·intro j m;have p:h.next<=j:=m;simp only [M'];rw [if_neg (by omega)];exact a.freshl j p
  ·intro y v e;have e':M.im w.heap.size y=some v:=e;rw [a.im_none]at e';simp at e'
  ·intro k e;rw [l.size];omega
  ·rintro i A rfl r;simp [Heap.get_set]at r
  ·rintro i k rfl r;simp [Heap.get_set]at r
  ·rintro i T rfl r;simp [Heap.get_set]at r;subst r;exact⟨#[],0,by simp [M'],l.new,⟨cW.nil _,cW.nil _⟩,Brn.nil⟩
 exact⟨M',g.1,g.2,by simp [M']⟩
theorem e4S{n:Nat}(V:h.get n= .free){rc:Array Value}{Z:TypeId}{fz:Nat×Nat}(m:NewBlk w w' (.cells rc Z fz))(hf:fz.2<=fz.1\/rc.size<=fz.1){cs:List IV}{len sz cap:Nat}(hl:cs.length=len*sz)(h0:0<cs.length)(p:len<=cap)(A:cap*sz<=rc.size)
  (y:eB M cs (rc.toList.take cs.length)):
  ∃M',Inv M' (h.set n (.tip (len*sz))) w'/\Pres w.heap.size M h w M' (h.set n (.tip (len*sz))) w'/\VR M' (.vslice (some n) (len*sz) len sz cs) (.slice (some ⟨w.heap.size,0,none⟩) len cap):=by
 obtain⟨r1,Y⟩:=a.resv n V;have L:=a.res_lt V;have D:cs.length<=rc.size:=by
  have:len*sz<=cap*sz:=h2Q _ p;omega
 let M':Meta:= {M with tip:=fun i=>if i=n then cs.length else M.tip i,cur:=fun i=>if i=n then(w.heap.size,cs.length)else M.cur i,im:=fun b o=>if b=w.heap.size then(if o<cs.length then rc[o]? else none)else M.im b o,bsz:=fun b=>if b=w.heap.size then some rc.size else M.bsz b }
 have T:Ext M M':=⟨h1D _,fun _ _ x=>x,fun c o v x=>by
  simp only [M'];rw [if_neg (by have:=a.im_lt x;omega)];exact x,fun c k x=>by
  simp only [M'];rw [if_neg (by have:=a.bsz c k x;omega)];exact x,fun i _=>by
  simp only [M']
  by_cases e:i=n
  ·rw [if_pos e,e,Y];exact h1N _
  ·rw [if_neg e];exact h1D _,fun i _ q=>by
  simp only [M']at q⊢
  by_cases e:i=n
  ·rw [if_pos e,e,Y]at q;omega
  ·rw [if_neg e]⟩
 rw [<-hl];have g:Inv M' (h.set n (.tip cs.length)) w'/\Pres w.heap.size M h w M' (h.set n (.tip cs.length)) w':=by
  refine UpdS.done (S:=fun j=>j=n) (tb:=w.heap.size) ?_ a;refine {
   get:=fun j l=>by rw [Heap.get_set,if_neg l],loc:=fun j l=>rfl,tip:=fun j l=>by simp [M',show j≠n from l],cur:=fun j l=>by simp [M',show j≠n from l],heap:=fun k G _=>m.old k G,im:=fun c o y=>by simp [M',y],bsz:=fun c y=>by simp [M',y],size:=(by rw [m.size];omega),
   os:=m.os,tape:=m.tape,output:=m.output,own:= .inr rfl,wb:=?_,one:=fun i i' e e' _ _=>e.trans e'.symm,ext:=T,nid:=a.nid,fresh:=?_,freshl:=fun j l=>a.freshl j l,imtb:=?_,bsztb:=?_,cells:=?_,tips:=?_,maps:=?_,resv:=fun i r e=>by subst r;simp [Heap.get_set]at e }
  ·rintro i c rfl ew;simp [Wb,Heap.get_set,M']at ew;exact ew.symm
  ·intro j l;have O:h.next<=j:=l;rw [Heap.get_set,if_neg (by omega)];exact a.fresh j O
  ·intro K v e;simp only [M',if_true]at e;split at e
   ·simp only [World.cell?,m.new,h3S,h1X,if_false];exact e
   ·simp at e
  ·intro k e;rw [m.size];omega
  ·rintro i X rfl u;simp [Heap.get_set]at u
  ·rintro i k rfl u;simp [Heap.get_set]at u;subst u;exact⟨by simp [M'],cs.length,rc,by simp [M'],⟨⟨Z,fz,m.new⟩,fun i r=>iP m.new hf i r,by simp [M']⟩,D,fun K ho=>by simp [M'];omega⟩
  ·rintro i es rfl u;simp [Heap.get_set]at u
 refine⟨M',g.1,g.2,?_⟩;have z:=y.mono T;refine .vslice ⟨w.heap.size,0,none⟩ (fun i=>rc.getD i undef) hl p (.inr ⟨rfl,rc.size,by simp [M'],by simpa using A⟩) ?_ ?_ z.2 ?_ (by simp)
 ·intro i r;simp [M',r,show i<rc.size by omega]
 ·intro i r;have:=z.1.2 i r (by simp;omega);simpa [show i<rc.size by omega]using this
 ·intro i e;simp at e;subst e;exact⟨by show n<M.nid;rw [a.nid];exact L,h1D _,by simp [M'],fun _=> .inr (by simp [M'])⟩
end
end Go.Pv
end
section
namespace Go.Pv
section
variable {M:Meta} {h:Heap} {w:World}
theorem Inv.row(a:Inv M h w){id:Nat}{cs:List IV}(g:h.get id= .cells cs): ∃b rc,M.loc id=some b/\Blk M w b rc/\cs.length<=rc.size/\eB M cs (rc.toList.take cs.length)/\At w b 0 (rc.toList.take cs.length):=by
 obtain⟨b,rc,h1,h2,h3,h4,m⟩:=a.cells id cs g;refine⟨b,rc,h1,h2,h3,h4,fun i j=>?_⟩;obtain⟨p,fz,l⟩:=h2.at_;simp at j;simp [World.cell?,l,show i<rc.size by omega]
theorem uF.uncons{k v:IV}{j:List (IV×IV)}{ents:List MapEntry}(h:uF M ((k,v)::j) ents): ∃e r,ents=e::r/\VR M k e.key/\VR M v e.val/\uF M j r:=by
 obtain⟨h1,h2⟩:=h
 cases ents with
 |nil=>simp [cW]at h1
 |cons e r=>
  obtain⟨_,_,i,m,p⟩:=cW.uncons h1;obtain⟨_,_,g,l,u⟩:=cW.uncons h2;simp at i g;obtain⟨rfl,rfl⟩:=i;obtain⟨rfl,rfl⟩:=g;exact⟨e,r,rfl,m,l,p,u⟩
theorem uF.cons{k v:IV}{g:List (IV×IV)}{e:MapEntry}{r:List MapEntry}(i:VR M k e.key)(j:VR M v e.val)(h:uF M g r):uF M ((k,v)::g) (e::r):=
 ⟨cW.cons i h.1,cW.cons j h.2⟩
theorem uF.len{g:List (IV×IV)}{ents:List MapEntry}(h:uF M g ents):g.length=ents.length:=by simpa using h.1.1
theorem jW{d:TypeDesc}{x y:IV}{r:Bool}{a b:Value}(h:dO d x y=some r)(l:VR M x a)(i:VR M y b):Instr.sameNow d a b=some r/\(r=true->x=y/\a=b/\∀n,Instr.sameBits n b a=true):=by
 unfold dO at h;split at h
 ·simp at h;subst h;cases l;cases i;refine⟨rfl,fun e=>?_⟩;simp at e;subst e;exact⟨rfl,rfl,fun n=>by cases n<;>simp [Instr.sameBits]⟩
 ·split at h
  ·rename_i p;simp at h;subst h;subst p;cases l;cases i;refine⟨by simp [Instr.sameNow],fun e=>?_⟩;simp at e;subst e;exact⟨rfl,rfl,fun n=>by cases n<;>simp [Instr.sameBits]⟩
  ·simp at h
 ·simp at h;subst h
  cases l with|str g=>cases i with|str j=>
  refine⟨?_,fun e=>?_⟩
  ·simp only [Instr.sameNow];rw [beq_toListBytes,ByteArray.toList_eq,ByteArray.toList_eq]
  ·have e':g.data.toList=j.data.toList:=by simpa using e
   have u:g=j:=by
    obtain⟨⟨z⟩⟩:=g;obtain⟨⟨A⟩⟩:=j;simp at e';subst e';rfl
   subst u;have m:(g==g)=true:=by rw [beq_toListBytes];simp
   exact⟨rfl,rfl,fun n=>by cases n<;>simp [Instr.sameBits,m]⟩
 ·simp at h
def rK(g j:TypeId)(k:Value)(i:Bool)(ents:Array MapEntry):Sem Value:=do
 Instr.checkKey ents.isEmpty 10000 g k
 match<-Instr.findKey g k ents.toList with
 |some (_,v)=>pure (if i then .tuple #[v,.bool true]else v)
 |none=>do
  let z<-zeroValue j
  pure (if i then .tuple #[z,.bool false]else z)
theorem tD{d:TypeDesc}{k:IV}{g:Value}(m:VR M k g): ∀{p:List (IV×IV)}{ents:List MapEntry}{r:Option IV}(i:Nat),uF M p ents->fU d k p=some r->
  match r with
  |some v=> ∃j rv,Instr.findNow d g ents i=some (some (j,rv))/\VR M v rv
  |none=>Instr.findNow d g ents i=some none
 | [],ents,r,i,hm,h=>by
  have:ents=[]:=by have:=hm.len;simpa using this.symm
  subst this;simp [fU]at h;subst h;rfl
 | (x,v)::p,ents,r,i,hm,h=>by
  obtain⟨e,q,rfl,u,z,h2⟩:=hm.uncons;unfold fU at h;split at h
  ·rename_i l;simp at h;subst h;have:=(jW l m u).1;exact⟨i,e.val,by simp [Instr.findNow,this],z⟩
  ·rename_i l;have:=(jW l m u).1;have y:=tD m (i+1) h2 h;simpa [Instr.findNow,this]using y
  ·simp at h
theorem pW{P:Program}{m:TypeId}{d:TypeDesc}{k:IV}{l:Value}{emp:Bool}(i:P.underlying m=some d)(j:nM d k=true)(g:VR M k l)(w:World)(n:Nat):(Instr.checkKey emp (n+1) m l).run P w= .ok () w:=by
 unfold nM at j;split at j
 ·cases g;simp [Instr.checkKey,run_underlying i]
 ·cases g;simp [Instr.checkKey,run_underlying i]
 ·cases g;simp [Instr.checkKey,run_underlying i]
 ·simp at j
section
variable {E:Env} {o:Oper} {ev:Operand->Option TV} {ρ:Operand->Value} {pb:Nat->Nat}
theorem e4T(a:Inv M h w)(hev: ∀x tv,ev x=some tv->TR M pb tv (ρ x)){tv:TV}(g:dP E o ev h=some tv):
  ∃x r,tv= .v x/\(execOp ρ o).run E.P w= .ok (.value r) w/\VR M x r:=by
 unfold dP at g
 cases hop:o.op with
 |load t ad=>
  simp only [hop]at g;split at g
  case h_2=>simp at g
  rename_i id p ha;split at g
  case h_2=>simp at g
  rename_i cs V;obtain⟨v,h1,h2⟩:=h0W.1 g;subst h2;have u:VR M (.ptr id p) (ρ ad):=hev _ _ ha;generalize hρ:ρ ad=ra at u
  cases u with
  | @ptr _ _ b hl=>
   obtain⟨b',rc,K,l2,l3,l4,l5⟩:=a.row V;rw [hl]at K;simp at K;subst K;obtain⟨r,h3,h4⟩:=wD (P:=E.P) l4 l5 h1;exact⟨_,r,rfl,by simp only [execOp,hop,hρ,Instr.loadAt,Instr.sureAddr];exact cD _ _ (by simpa using h3),h4⟩
 |convert s d x=>
  simp only [hop]at g;split at g
  case h_2=>simp at g
  rename_i e id p len hs hd hx;split at g
  case h_2=>simp at g
  rename_i cs he V;split at g
  case isFalse=>simp at g
  rename_i b1;obtain⟨b,h1,h2⟩:=h0W.1 g;subst h2;have u:=bK hev hx;generalize hρ:ρ x=ra at u;obtain⟨b',rc,K,l2,l3,l4,l5⟩:=a.row V
  cases u with
  | @hslice _ _ _ _ cap b0 ad hl had hlen=>
   rw [hl]at K;simp at K;subst K;refine⟨_,.string ⟨b.toArray⟩,rfl,?_,d3D b⟩;simp only [execOp,hop,hρ];refine cD _ _ ?_;rw [run_convert_bytes_string w s d e _ _ _ hs he hd];have hc:=(l4.drop p).take len;have A:((rc.toList.take cs.length|>.drop p).take len).length=len:=by simp;omega
   have:=oN (P:=E.P) w (a:=ad) (cap:=cap) hc.1 h1 ?_
   ·rw [A]at this;exact this
   ·rw [A]
    by_cases h0:len=0
    ·subst h0;simp [loadCells,loadCellsFrom]
    ·obtain⟨rfl,_⟩:=had.resolve_left (by omega);have:=wG (P:=E.P) w (b:=b0) (base:=p) (rc:=(rc.toList.take cs.length|>.drop p).take len) (fun i hi=>by
      have b6:=hi;rw [A]at b6;have:=l5 (p+i) (by simp;omega);simpa using this)
     rw [A]at this;exact this
 |slice t x lo hi mx=>
  simp only [hop]at g;split at g
  case h_2=>simp at g
  rename_i n e id p hu hx;split at g
  case h_2=>simp at g
  rename_i cs sz V a9;split at g
  case isFalse=>simp at g
  rename_i b1;obtain⟨⟨l,k⟩,h1,h2⟩:=h0W.1 g;subst h2;have u:VR M (.ptr id p) (ρ x):=hev _ _ hx;generalize hρ:ρ x=ra at u;obtain⟨b',rc,K,l2,l3,l4,l5⟩:=a.row V;obtain⟨i,b8,b9⟩:=dK a9
  cases u with
  | @ptr _ _ b0 hl=>
   rw [hl]at K;simp at K;subst K;obtain⟨c1,c2,c3⟩:=jJ (P:=E.P) (isSlice:=false) w (h1D n) (wI hev lo) (wI hev hi) h1;have a0:VR M (.hslice id p n (sz+1)) (.slice (some ⟨b0,p,none⟩) n n):= .hslice _ hl (.inr ⟨rfl,rc.size,l2.bsz,by omega⟩) (h1D n);have a2:=uE a0 c1 c2;refine⟨_,_,rfl,?_,a2⟩;simp only [execOp,hop,hρ];refine cD _ _ ?_;simp only [Instr.sliceAt,h1K,run_underlying hu,h1F,Instr.sureAddr,h1R,h8E,c3,cG b8,b9,h4C];split<;>rfl
 |lookup t x k ok=>
  simp only [hop]at g;split at g
  case h_2=>simp at g
  rename_i kt et m b4 hu hm hk;split at g
  case h_2=>simp at g
  rename_i d es hd D;split at g
  case isFalse=>simp at g
  rename_i a8;have T:=bK hev hm;have a3:=bK hev hk;have a6: ∃ents:Array MapEntry,uF M es ents.toList/\(Instr.lookup t (ρ x) (ρ k) ok).run E.P w=(rK kt et (ρ k) ok ents).run E.P w:=by
   split at D
   ·simp at D;subst D;generalize ρ x=rx at T
    cases T
    exact⟨#[],⟨cW.nil _,cW.nil _⟩,by simp [Instr.lookup,rK,run_underlying hu];rfl⟩
   ·rename_i id;split at D
    case h_2=>simp at D
    rename_i es' V;simp at D;subst D;generalize ρ x=rx at T
    cases T with
    | @map _ b hl=>
     obtain⟨b',ents,clock,g1,g2,g3,_⟩:=a.maps id es' V;rw [hl]at g1;simp at g1;subst g1;refine⟨ents,g3,?_⟩;have b3:(getObj b).run E.P w= .ok (.map ents clock) w:=by simp [getObj,Sem.run,g2]
     simp [Instr.lookup,rK,run_underlying hu,b3];rfl
   ·simp at D
  obtain⟨ents,b2,Y⟩:=a6;have a4:=fun emp=>pW (M:=M) (emp:=emp) hd a8 a3 w 9999
  have X: ∀{q:Option IV}{Z:TV},fU d b4 es=some q->(match q with
    |some v=>some (TV.v (if ok then .tuple [v,.bool true]else v))
    |none=>(cV E.P et).map fun z=>TV.v (if ok then .tuple [z,.bool false]else z))=some Z-> ∃v r,Z= .v v/\(execOp ρ o).run E.P w= .ok (.value r) w/\VR M v r:=by
   intro q Z hf L;have a7:=tD a3 0 b2 hf
   cases q with
   |some v=>
    obtain⟨j,rv,f1,f2⟩:=a7;simp at L;subst L;refine⟨_,if ok then .tuple #[rv,.bool true]else rv,rfl,?_,?_⟩
    ·simp only [execOp,hop];refine cD _ _ ?_;rw [Y];simp only [rK,h1K,h1F,a4,Instr.findKey,run_underlying hd,f1,h1R]
    ·cases ok
     ·simpa using f2
     ·simpa using dT (cW.cons f2 (cW.cons (.bool true) (cW.nil M)))
   |none=>
    obtain⟨z,hz,b5⟩:=h0W.1 L;subst b5;obtain⟨i,r,z1,z2,z3,z4⟩:=eG (M:=M) hz;refine⟨_,if ok then .tuple #[r,.bool false]else r,rfl,?_,?_⟩
    ·simp only [execOp,hop];refine cD _ _ ?_;rw [Y];have a1:Instr.findNow d (ρ k) ents.toList 0=some none:=a7;simp only [rK,h1K,h1F,a4,Instr.findKey,run_underlying hd,a1,h1R,cJ w z1 z2]
    ·cases ok
     ·simpa using z3
     ·simpa using dT (cW.cons z3 (cW.cons (.bool false) (cW.nil M)))
  split at g
  ·rename_i v hf;exact X hf g
  ·rename_i hf;exact X hf g
  ·simp at g
 |call c=>
  obtain⟨O,a5,G⟩:=c;simp only [hop]at g
  cases O with
  |value x=>simp at g
  |invoke x n=>simp at g
  |builtin b=>
   cases b
   case len=>
    simp only at g;split at g
    case h_2=>simp at g
    rename_i t id ht hx;obtain⟨y,hy,b7⟩:=h2W.1 hx;have u:=bK hev b7;split at g
    case h_2=>simp at g
    rename_i kt et es hu V;simp at g;subst g;generalize hρ:ρ y=ra at u
    cases u with
    | @map _ b hl=>
     obtain⟨b',ents,clock,g1,g2,g3,_⟩:=a.maps id es V;rw [hl]at g1;simp at g1;subst g1;refine⟨_,goInt ents.size,rfl,?_,?_⟩
     ·simp only [execOp,hop,resolve,invoke,h1K,h1R,h1F,builtin];have:(Builtin.len_ G o.type (a5.map ρ)).run E.P w= .ok (goInt ents.size) w:=by
       simp [Builtin.len_,ht,hy,hρ,run_underlying hu,getObj,Sem.run,g2]
      simp [this]
     ·have:=g3.len;simp at this;rw [this];exact .int _ _
   all_goals simp at g
 |_=>simp [hop]at g
end
end
section
variable {M:Meta} {h:Heap} {w w':World}
theorem gE(n:Nat)(z:List IV):(fF n z).length=n*z.length:=by
 induction n with
 |zero=>simp [fF]
 |succ n ih=>simp only [fF,h1E,ih,h3B];omega
theorem a2J(z:List IV)(g:0<z.length): ∀(n i:Nat),i<n*z.length->(fF n z)[i]?=z[i%z.length]?
 |0,i,hi=>by omega
 |n+1,i,hi=>by
  rw [h3B]at hi;simp only [fF]
  by_cases hlt:i<z.length
  ·rw [h1Z hlt,Nat.mod_eq_of_lt hlt]
  ·rw [h1V (by omega),a2J z g n (i-z.length) (by omega)];rw [Nat.mod_eq_sub_mod (by omega:i>=z.length)]
theorem wK{z:List IV}{p:Array Value}(u:eB M z p.toList)(r:0<z.length)(n:Nat):
  eB M (fF n z) ((Array.range (n*z.length)).map (p[· %p.size]!)).toList:=by
 have l:p.size=z.length:=by have:=u.len;simpa using this.symm
 refine⟨⟨by simp [gE],fun i h1 h2=>?_⟩,fun i h1=>?_⟩
 ·rw [gE]at h1;have j:=h7O i r;have g:(fF n z)[i]?=z[i%z.length]?:=a2J z r n i h1;rw [h0U (by rw [gE];exact h1),h0U j]at g;simp only [h0V]at g;rw [g];have:=u.1.2 (i%z.length) j (by simp [l];exact j);simpa [l,getElem!_pos,j]using this
 ·have m:=h1;rw [gE]at m;have j:=h7O i r;have g:(fF n z)[i]?=z[i%z.length]?:=a2J z r n i m;rw [h0U h1,h0U j]at g;simp only [h0V]at g;rw [g];exact u.2 _ j
theorem mN{t:TypeId}{z:IV}{i:TypeInfo}{P:Program}(j:cV P t=some z)(g:P.info? t=some i): ∃r,i.zero=some r/\eB M (cellsOf z) r.cells.toList:=by
 obtain⟨l,r,h1,h2,h3,h4⟩:=eG (M:=M) j;rw [g]at h1;simp at h1;subst h1;exact⟨r,h2,jI h3 h4⟩
theorem uR(f g:Nat->Value):(Array.range 0).map f=(Array.range 0).map g:=by simp
theorem rL{P:Program}(w:World){t e:TypeId}{n sz:Nat}{z:IV}{ps:List (Nat×IV)}{g:Array (Nat×Value)}{cs:List IV}(Z:P.underlying t=some (.slice e))(D:gB P e=some (sz+1))
  (hz:cV P e=some z) (hn:n*(sz+1)<=16777216) (hzl:(cellsOf z).length=sz+1) (hp:PR M ps g.toList) (h1:nJ (fun i=>some (i*(sz+1),sz+1)) (fF n (cellsOf z)) ps=some cs):
  ∃y:Array Value,(Instr.buildSlice t n g).run P w= .ok (.slice (some ⟨w.heap.size,0,none⟩) n n) (w.alloc (.cells y e))/\eB M cs y.toList/\cs.length=n*(sz+1):=by
 obtain⟨i,u,O⟩:=dK D;obtain⟨X,L,T⟩:=mN (M:=M) hz u;have r:=wK T (by omega) n;rw [hzl]at r;obtain⟨y,K,Y⟩:=wE hp r h1;have V:cs.length=n*(sz+1):=by
  have: ∀{j:Nat->Option (Nat×Nat)}{ps:List (Nat×IV)}{c m:List IV},nJ j c ps=some m->m.length=c.length:=by
   intro j ps
   induction ps with
   |nil=>intro c m l;simp [nJ]at l;rw [l]
   |cons p ps ih=>
    intro c m l;obtain⟨pi,pv⟩:=p;unfold nJ at l;split at l
    ·simp at l
    ·split at l
     ·rename_i a0;rw [ih l];simp [spl];omega
     ·simp at l
  rw [this h1,gE,hzl]
 refine⟨y,?_,Y,V⟩;have A:i.size=sz+1:=O;simp only [Instr.buildSlice,h1K,run_underlying Z,h1F,cG u,A];rw [if_neg (by omega)]
 by_cases hn0:n*(sz+1)=0
 ·rw [hn0]at K;rw [if_pos hn0];have G:Instr.fill (fun i=>some (i*(sz+1),sz+1)) ((Array.range (n*(sz+1))).map fun x=>(#[]:Array Value)[x% (#[]:Array Value).size]!) g.toList=some y:=by
   rw [hn0,uR _ (fun x=>X.cells[x%X.cells.size]!)];exact K
  simp only [h1K,h1R,h1F];rw [G];simp only [Go.newRow,h1K,run_newObj,h1F,h1R];rfl
 ·rw [if_neg hn0];simp only [h1K,h1R,h1F,cJ w u L];rw [K];simp only [Go.newRow,h1K,run_newObj,h1F,h1R];rfl
theorem oO(a:Inv M h w)(i:Nat){len sz cap:Nat}{cs:List IV}{rc:Array Value}{p:TypeId}{fz:Nat×Nat}(j:NewBlk w w' (.cells rc p fz))(m:fz.2<=fz.1\/rc.size<=fz.1)(l:cs.length=len*sz)(g:len<=cap)
  (hcap:cap*sz<=rc.size) (hc:eB M cs (rc.toList.take cs.length)):
  ∃M',Inv M' (newRow h i len sz cs).2 w'/\Pres w.heap.size M h w M' (newRow h i len sz cs).2 w'/\VR M' (newRow h i len sz cs).1 (.slice (some ⟨w.heap.size,0,none⟩) len cap):=by
 unfold newRow
 split
 ·exact e4N a j m l g hcap hc
 ·obtain⟨M',h1,h2,h3,h4⟩:=yR a j m (by rw [l];exact h2F (h2Q _ g) hcap) hc;exact⟨M',h1,h2,.hslice _ h3 (.inr ⟨rfl,rc.size,h4,by omega⟩) g⟩
theorem rM(w:World)(x:Obj):NewBlk w (w.drew.alloc x) x where
 new:=by show(w.heap.push x)[w.heap.size]?=_;simp
 old:=fun b g=>by show(w.heap.push x)[b]?=_;rw [h5V,if_neg (by omega)]
 size:=by simp
 os:=rfl
 tape:=rfl
 output:=rfl
theorem b0G{P:Program}(a:Inv M h w){sz n:Nat}{x:IV}{xs:List IV}{r:Value}(Y:VR M x r)(l:fO h sz x=some (n,xs)):
  xs.length=n*sz/\(∀w':World,(Builtin.lenOf r).run P w'= .ok n w')/\(∀i (O:i<xs.length),isCell xs[i]=true)/\
  ∀m,m<=n-> ∃news:List Value,eB M (xs.take (m*sz)) news/\news.length=m*sz/\(Builtin.firstCells sz m r).run P w= .ok news.toArray w/\(Builtin.firstCells sz m r).run P w.drew= .ok news.toArray w.drew:=by
 unfold fO at l;split at l
 ·simp at l;obtain⟨rfl,rfl⟩:=l
  cases Y
  refine⟨by simp,fun _=>rfl,fun i O=>by simp at O,fun m D=>?_⟩;have:m=0:=by omega
  subst this;exact⟨[],by simpa using eB.nil M,by simp,run_firstCells_none w _ _ _ _,run_firstCells_none w.drew _ _ _ _⟩
 ·split at l
  case isFalse=>simp at l
  rename_i V;subst V;simp at l;obtain⟨rfl,rfl⟩:=l
  cases Y with
  |vnil=>
   refine⟨by simp,fun _=>rfl,fun i O=>by simp at O,fun m D=>?_⟩;have:m=0:=by omega
   subst this;exact⟨[],by simpa using eB.nil M,by simp,run_firstCells_none w _ _ _ _,run_firstCells_none w.drew _ _ _ _⟩
  | @vslice _ _ _ _ cap _ ad rv hn hlen ha him hv hc ht hf=>
   refine⟨hn,fun _=>rfl,hc,fun m D=>?_⟩;rename_i id e len z cs;have a3:m*z<=len*z:=h2Q _ D;have G:eB M cs ((List.range cs.length).map rv):=⟨⟨by simp,fun i p q=>by simpa using hv i p⟩,hc⟩;have g: ∀j v,(((List.range cs.length).map rv).take (m*z))[j]?=some v->w.cell? (ad.add j)=some v:=by
    intro j v y;rw [h4H]at y;split at y
    ·rename_i a1;obtain⟨h1,h2⟩:=h2B.1 y;simp at h1 h2;have K:cap≠0:=by
      intro e;have:len=0:=by omega
      subst this;simp at hn;omega
     obtain⟨T,_⟩:=ha.resolve_left K;obtain⟨ab,ao,a6⟩:=ad;simp only at T;subst T;rw [dA,<-h2];exact a.im _ _ _ (him j h1)
    ·simp at y
   have X:(((List.range cs.length).map rv).take (m*z)).length=m*z:=by simp;omega
   exact⟨_,G.take _,X,run_firstCells_some w z m ad len cap _ X g,run_firstCells_some w.drew z m ad len cap _ X (by simpa using g)⟩
 ·split at l
  case isFalse=>simp at l
  rename_i V;subst V;split at l
  case h_2=>simp at l
  rename_i cs hg;split at l
  case isFalse=>simp at l
  rename_i a5;simp at l;obtain⟨rfl,rfl⟩:=l;rename_i id u len z _;obtain⟨b',rc,Z,l2,l3,l4,l5⟩:=a.row hg
  cases Y with
  | @hslice _ _ _ _ cap b ad X had hlen=>
   rw [X]at Z;simp at Z;subst Z;have a0:((cs.drop u).take (len*z)).length=len*z:=by simp;omega
   refine⟨a0,fun _=>rfl,((l4.drop u).take _).2,fun m D=>?_⟩;have a3:m*z<=len*z:=h2Q _ D;have g: ∀j v,((((rc.toList.take cs.length).drop u).take (len*z)).take (m*z))[j]?=some v->w.cell? (ad.add j)=some v:=by
    intro j v y;rw [h4H]at y;split at y
    ·rename_i a1;obtain⟨a2,a4⟩:=mM _ _ _ _ _ y;have K:cap≠0:=by
      intro e;have:len=0:=by omega
      subst this;simp at a2
     obtain⟨rfl,_⟩:=had.resolve_left K;rw [dA];obtain⟨q1,q2⟩:=h2B.1 a4;have:=l5 (u+j) q1;rw [q2]at this;simpa using this
    ·simp at y
   have L:((((rc.toList.take cs.length).drop u).take (len*z)).take (m*z)).length=m*z:=by simp;omega
   exact⟨_,((l4.drop u).take _).take _,L,run_firstCells_some w z m ad len cap _ L g,run_firstCells_some w.drew z m ad len cap _ L (by simpa using g)⟩
 ·split at l
  case isFalse=>simp at l
  rename_i V;subst V;simp at l;obtain⟨rfl,rfl⟩:=l
  cases Y with
  |str s=>
   refine⟨by simp,fun _=>by simp [Builtin.lenOf],fun i O=>by simp [isCell],fun m D=>?_⟩;simp only [h4Z]at D;have G:eB M (s.data.toList.map fun b=>IV.int .u8 b.toNat) (s.data.toList.map fun b=>Value.int .u8 b.toNat):=
    ⟨⟨by simp,fun i p q=>by simpa using VR.int _ _⟩,fun i p=>by simp [isCell]⟩
   have A: ∀w':World,(Builtin.firstCells 1 m (.string s)).run P w'= .ok ((s.data.toList.map fun b=>Value.int .u8 b.toNat).take (m*1)).toArray w':=by
    intro w';simp only [Builtin.firstCells,h1R]
    congr 1
    apply h4V;simp [ByteArray.data_extract,h5Y]
   exact⟨_,G.take _,by have e:s.size=s.data.size:=rfl;simp;omega,A w,A w.drew⟩
 ·simp at l
theorem c5E{P:Program}(a:Inv M h w){sz n:Nat}{x:IV}{xs:List IV}{r:Value}{l:TypeId}{p:TypeDesc}(m:P.underlying l=some p)(i:lX p=true)(A:VR M x r)(z:fO h sz x=some (n,xs)):
  ∃g:List Value,eB M xs g/\Src P sz l r n g w:=by
 obtain⟨h1,h2,h3,h4⟩:=b0G (P:=P) a A z;obtain⟨g,j,y,u,D⟩:=h4 n (h1D _);rw [h1H (by omega)]at j;refine⟨g,j,⟨?_,h2,u,D,y,j.one⟩⟩;unfold lX at i;split at i
 ·exact .inl ⟨_,m⟩
 ·exact .inr m
 ·simp at i
end
end Go.Pv
end
section
namespace Go.Pv
open Go
def mO(h:Heap)(n g len sz:Nat)(cs:List IV):IV×Heap:=(uM n g len sz cs,h.set n (pR g len sz cs))
theorem a0K{M:Meta}{h:Heap}{w w':World}(a:Inv M h w){n:Nat}(j:h.get n= .free)(g:Nat){len sz cap:Nat}{cs:List IV}(u:g=0->0<cs.length){rc:Array Value}{r:TypeId}{fz:Nat×Nat}(l:NewBlk w w' (.cells rc r fz))(p:fz.2<=fz.1\/rc.size<=fz.1)(m:cs.length=len*sz)(i:len<=cap)
  (hcap:cap*sz<=rc.size) (hc:eB M cs (rc.toList.take cs.length)):
  ∃M',Inv M' (mO h n g len sz cs).2 w'/\Pres w.heap.size M h w M' (mO h n g len sz cs).2 w'/\VR M' (mO h n g len sz cs).1 (.slice (some ⟨w.heap.size,0,none⟩) len cap):=by
 unfold mO uM pR
 by_cases hw:g=0
 ·simp only [if_pos hw];exact e4S a j l p m (u hw) i hcap hc
 ·simp only [if_neg hw];obtain⟨M',h1,h2,h3,h4⟩:=a7N a j l p (by rw [m];exact h2F (h2Q _ i) hcap) hc;exact⟨M',h1,h2,.hslice _ h3 (.inr ⟨rfl,rc.size,h4,by omega⟩) i⟩
theorem Inv.free1{M:Meta}{h:Heap}{w:World}(a:Inv M h w): ∃M',Inv M' (h.push .free) w/\Pres w.heap.size M h w M' (h.push .free) w:=by
 let M':Meta:= {M with nid:=M.nid+1,tip:=fun i=>if i=h.next then 0 else M.tip i }
 have y:Ext M M':=⟨by simp [M'],fun _ _ x=>x,fun _ _ _ x=>x,fun _ _ x=>x,fun i p=>by
  simp only [M'];rw [if_neg (by have:=a.nid;omega)];exact h1D _,fun i p _=>rfl⟩
 have m: ∀j,(h.push .free).get j=if j=h.next then .free else h.get j:=fun j=>Heap.get_push h j .free
 have g: ∀{b rc},Blk M w b rc->Blk M' w b rc:=fun l=>⟨l.at_,l.free,l.bsz⟩
 have u: ∀j,Wb M' (h.push .free) j=Wb M h j:=fun j=>by
  by_cases e:j=h.next
  ·subst e;simp [Wb,m,a.fresh h.next (h1D _)]
  ·simp only [Wb,m,if_neg e,M']
 refine⟨M',?_,⟨y,h1D _,rfl,rfl,rfl,fun b O D=>⟨rfl,?_,fun _=>rfl⟩⟩⟩
 ·exact {
   nid:=by show M.nid+1=_;rw [a.nid,Heap.next_push]
   fresh:=fun id r=>by
    rw [Heap.next_push]at r;rw [m,if_neg (by omega)];exact a.fresh id (by omega)
   freshl:=fun id r=>by
    rw [Heap.next_push]at r;exact a.freshl id (by omega)
   cells:=fun id cs e=>by
    rw [m]at e;split at e
    ·simp at e
    ·obtain⟨b,rc,h1,h2,h3,h4,A⟩:=a.cells id cs e;exact⟨b,rc,h1,g h2,h3,h4.mono y,A⟩
   tips:=fun id k e=>by
    rw [m]at e;split at e
    ·simp at e
    ·rename_i p;obtain⟨K,b,e',rc,h1,h2,h3⟩:=a.tips id k e;exact⟨by simp only [M'];rw [if_neg p];exact K,b,e',rc,h1,g h2,h3⟩
   maps:=fun id L e=>by
    rw [m]at e;split at e
    ·simp at e
    ·obtain⟨b,ents,G,h1,h2,h3⟩:=a.maps id L e;exact⟨b,ents,G,h1,h2,h3.1.mono y,h3.2⟩
   im:=a.im
   bsz:=a.bsz
   one:=fun id z b e e'=>by
    rw [u]at e e';exact a.one id z b e e'
   resv:=fun id e=>by
    rw [m]at e;split at e
    ·rename_i p;subst p;exact⟨a.freshl _ (h1D _),by simp [M']⟩
    ·rename_i p;simp only [M'];rw [if_neg p];exact a.resv id e }
 ·rintro⟨id,e⟩;rw [u]at e;exact D ⟨id,e⟩
theorem Inv.reserve{M:Meta}{h:Heap}{w:World}(a:Inv M h w): ∀k,∃M',Inv M' (h.reserve k) w/\Pres w.heap.size M h w M' (h.reserve k) w
 |0=>⟨M,a,Pres.refl _ _ _ _⟩
 |k+1=>by
  obtain⟨p,j,m⟩:=a.reserve k;obtain⟨i,g,l⟩:=j.free1;exact⟨i,g,m.trans l⟩
end Go.Pv
end
end
