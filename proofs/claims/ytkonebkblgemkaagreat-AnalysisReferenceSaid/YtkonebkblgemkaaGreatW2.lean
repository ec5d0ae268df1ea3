/-
  Texts of this proof, one after the other.
  Conditions: none.
-/
import Derived.Test.YtkonebkblgemkaaGreatW1
set_option linter.unusedVariables false
set_option linter.unusedSimpArgs false
set_option maxRecDepth 100000
set_option maxHeartbeats 4000000
noncomputable section
variable{i j m b:Nat}{x y z u v:Int}{h g:Go.Pv.Heap}{c d l:List Go.Pv.IV}{K L:Y12}{s t:Go.Pv.IV}{D:Go.Pv.Meta}{V W:List Go.Value}{T U:Go.TypeId}{o:Bool}{X Y:Go.Value}{r:Y11}{O:Go.Oper}{N:Y10}{H:Array Go.Value}
section
namespace Go.Pv
namespace PT
variable {α:Type}
theorem b7R(n:Nat): ∀(t:PT α)(k j:Nat)(x:Option α),k<n->(Mb n t k x).get j=if j=k then x else t.get j:=by
 induction n with
 |zero=>intro t k j x h;omega
 |succ n ih=>
  intro t k j x h;have i: ∀j,j%2=1->t.get j=t.left.get ((j-1)/2):=by
   intro j g
   cases t with
   |nil=>rfl
   |node l v r=>simp [get,left,show j≠0 by omega,g]
  have m: ∀j,j≠0->j%2=0->t.get j=t.right.get ((j-2)/2):=by
   intro j h0 g
   cases t with
   |nil=>rfl
   |node l v r=>simp [get,right,h0,g]
  have u:t.get 0=t.val:=by
   cases t with
   |nil=>rfl
   |node l v r=>simp [get,val]
  unfold Mb
  by_cases hk:k=0
  .subst hk;simp only [if_true,get]
   by_cases g:j=0
   .simp [g]
   .by_cases hj2:j%2=1
    .simp [g,hj2,i j hj2]
    .simp [g,hj2,m j g JZ]
  .rw [if_neg hk]
   by_cases hk2:k%2=1
   .rw [if_pos hk2];simp only [get]
    by_cases g:j=0
    .subst g;simp [u,show¬ (0=k) by omega]
    .rw [if_neg g]
     by_cases hj2:j%2=1
     .rw [if_pos hj2,ih _ _ _ _ JZ,i j hj2]
      by_cases e:j=k
      .simp [e]
      .rw [if_neg JZ,if_neg e]
     .rw [if_neg hj2,if_neg JZ,m j g JZ]
   .rw [if_neg hk2];simp only [get]
    by_cases g:j=0
    .subst g;simp [u,show¬ (0=k) by omega]
    .rw [if_neg g]
     by_cases hj2:j%2=1
     .rw [if_pos hj2,if_neg JZ,i j hj2]
     .rw [if_neg hj2,ih _ _ _ _ JZ,m j g JZ]
      by_cases e:j=k
      .simp [e]
      .rw [if_neg JZ,if_neg e]
theorem get_set(t:PT α)(k j:Nat)(x:Option α):(t.set k x).get j=if j=k then x else t.get j:=b7R _ _ _ _ _ JZ
theorem get_filt(f:α->Bool): ∀(t:PT α)(j:Nat),(t.filt f).get j=match t.get j with|some x=>if f x then some x else none|none=>none
 |nil,j=>rfl
 |node l v r,j=>by
  unfold filt get
  by_cases hj:j=0
  .simp only [hj,if_true]<;>cases v<;>rfl
  .by_cases hj2:j%2=1
   .simp [hj,hj2,get_filt f l]
   .simp [hj,hj2,get_filt f r]
theorem X8: ∀(n m:Nat)(t:PT α)(j k:Nat)(x y:Option α),j≠k->Mb n (Mb m t j x) k y=Mb m (Mb n t k y) j x
 |0,m,t,j,k,x,y,_=>by cases m<;>rfl
 |n+1,0,t,j,k,x,y,_=>rfl
 |n+1,m+1,t,j,k,x,y,hjk=>by
  simp only [Mb]
  by_cases hj:j=0
  .have hk:k≠0:=λe=>hjk JZ
   by_cases hk2:k%2=1<;>simp [hj,hk,hk2,left,right,val]
  .by_cases hk:k=0
   .by_cases hj2:j%2=1<;>simp [hj,hk,hj2,left,right,val]
   .by_cases hj2:j%2=1<;>by_cases hk2:k%2=1<;>simp [hj,hk,hj2,hk2,left,right,val]
    .exact X8 n m _ _ _ _ _ JZ
    .exact X8 n m _ _ _ _ _ JZ
theorem set_comm(t:PT α){j k:Nat}(x y:Option α)(h:j≠k):(t.set j x).set k y=(t.set k y).set j x:=X8 _ _ _ _ _ _ _ h
end PT
theorem Heap.set_comm(h:Heap){j k:Nat}(x y:IObj)(e:j≠k):(h.set j x).set k y=(h.set k y).set j x:=by
 simp only [Heap.set,PT.set_comm _ _ _ e]
theorem Heap.get_set(h:Heap)(id j:Nat)(x:IObj):(h.set id x).get j=if j=id then x else h.get j:=by
 simp only [Heap.get,Heap.set,PT.get_set];split<;>rfl
theorem Heap.get_push(h:Heap)(j:Nat)(x:IObj):(h.push x).get j=if j=h.next then x else h.get j:=by
 simp only [Heap.get,Heap.push,PT.get_set];split<;>rfl
theorem Heap.next_set(h:Heap)(id:Nat)(x:IObj):(h.set id x).next=h.next:=rfl
theorem Heap.next_push(h:Heap)(x:IObj):(h.push x).next=h.next+1:=rfl
structure Blk(M:Meta)(w:World)(b:Nat)(rc:Array Value):Prop where
 at_: ∃el fz,w.heap[b]?=some (.cells rc el fz)
 free: ∀i,i<rc.size->w.frozen? ⟨b,i,none⟩=false
 bsz:M.bsz b=some rc.size
def Zz(ents:Array MapEntry)(clock:Nat):Prop:=clock=ents.size/\∀(j:Nat)(e:MapEntry),ents[j]?=some e->e.born=j
theorem Zz.nil:Zz #[] 0:=⟨rfl,λj e h=>by simp at h⟩
theorem Zz.push{ents:Array MapEntry}{clock:Nat}(b:Zz ents clock)(k v:Value):Zz (ents.push {key:=k,val:=v,born:=clock }) (clock+1):=by
 obtain⟨h1,h2⟩:=b;refine⟨by simp [h1],λj e h=>?_⟩;rw [FS]at h;split at h
 .rename_i g;simp only [AC]at h;rw [<-h,g];exact h1
 .exact h2 j e h
theorem Zz.modify{ents:Array MapEntry}{clock:Nat}(b:Zz ents clock)(i:Nat)(g:MapEntry->MapEntry)(l: ∀e,(g e).born=e.born):Zz (ents.modify i g) clock:=by
 obtain⟨h1,h2⟩:=b;refine⟨by simp [h1],λj e h=>?_⟩;rw [DP]at h;split at h
 .obtain⟨x,m,r⟩:=AD.1 h;rw [<-r,l];exact h2 j x m
 .exact h2 j e h
def A2(M:Meta)(g:List (IV×IV))(ents:List MapEntry):Prop:=cU M (g.map (·.1)) (ents.map (·.key))/\cU M (g.map (·.2)) (ents.map (·.val))
def Wb(M:Meta)(h:Heap)(id:Nat):Y10:=
 match h.get id with
 | .cells _=>M.loc id
 | .map _=>M.loc id
 | .tip _=>some (M.cur id).1
 | .dead=>none
 | .free=>none
def Wr(M:Meta)(h:Heap)(b:Nat):Prop:= ∃id,Wb M h id=some b
structure Inv(M:Meta)(h:Heap)(w:World):Prop where
 nid:M.nid=h.next
 fresh: ∀id,h.next<=id->h.get id= .dead
 freshl: ∀id,h.next<=id->M.loc id=none
 cells: ∀id cs,h.get id= .cells cs-> ∃b rc,M.loc id=some b/\Blk M w b rc/\cs.length<=rc.size/\eP M cs (rc.toList.take cs.length)/\∀o,M.im b o=none
 tips: ∀id n,h.get id= .tip n->M.tip id=n/\∃b e rc,M.cur id=(b,e)/\Blk M w b rc/\e<=rc.size/\∀o,e<=o->M.im b o=none
 maps: ∀id es,h.get id= .map es-> ∃b ents clock,M.loc id=some b/\w.heap[b]?=some (.map ents clock)/\A2 M es ents.toList/\Zz ents clock
 im: ∀b o v,M.im b o=some v->w.cell? ⟨b,o,none⟩=some v
 bsz: ∀b n,M.bsz b=some n->b<w.heap.size
 one: ∀id id' b,Wb M h id=some b->Wb M h id'=some b->id=id'
 resv: ∀id,h.get id= .free->M.loc id=none/\M.tip id=0
structure Pres(B:Nat)(M:Meta)(h:Heap)(w:World)(M':Meta)(h':Heap)(w':World):Prop where
 ext:Ext M M'
 size:w.heap.size<=w'.heap.size
 os:w'.os=w.os
 tape:w'.tape=w.tape
 output:w'.output=w.output
 keep: ∀b,b<B-> ¬Wr M h b->w'.heap[b]?=w.heap[b]?/\¬Wr M' h' b/\∀o,M'.im b o=M.im b o
theorem Pres.refl(B:Nat)(M:Meta)(h:Heap)(w:World):Pres B M h w M h w:=⟨Ext.refl M,AF _,rfl,rfl,rfl,λ_ _ g=>⟨rfl,g,λ_=>rfl⟩⟩
theorem Pres.trans{B:Nat}{g i j:Meta}{h1 h2 h3:Heap}{l m r:World}(a:Pres B g h1 l i h2 m)(b:Pres B i h2 m j h3 r):Pres B g h1 l j h3 r where
 ext:=a.ext.trans b.ext
 size:=CG a.size b.size
 os:=b.os.trans a.os
 tape:=b.tape.trans a.tape
 output:=b.output.trans a.output
 keep:=λk hk u=>by
  obtain⟨y,z,A⟩:=a.keep k hk u;obtain⟨D,G,K⟩:=b.keep k hk z;exact⟨D.trans y,G,λo=>(K o).trans (A o)⟩
theorem Pres.mono{B g:Nat}{M M':Meta}{h h':Heap}{w w':World}(a:Pres B M h w M' h' w')(i:g<=B):Pres g M h w M' h' w':=
 {a with keep:=λk hk j=>a.keep k (AU hk i) j }
theorem Inv.drew{M:Meta}{h:Heap}{w:World}(a:Inv M h w):Inv M h w.drew where
 nid:=a.nid
 fresh:=a.fresh
 freshl:=a.freshl
 cells:=λid cs e=>by
  obtain⟨b,rc,h1,h2,h3⟩:=a.cells id cs e;exact⟨b,rc,h1,⟨h2.at_,h2.free,h2.bsz⟩,h3⟩
 tips:=λid n e=>by
  obtain⟨h0,b,e',rc,h1,h2,h3⟩:=a.tips id n e;exact⟨h0,b,e',rc,h1,⟨h2.at_,h2.free,h2.bsz⟩,h3⟩
 maps:=a.maps
 im:=a.im
 bsz:=a.bsz
 one:=a.one
 resv:=a.resv
theorem A2.mono{M M':Meta}(i:Ext M M'){g:List (IV×IV)}{ents:List MapEntry}(h:A2 M g ents):A2 M' g ents:=⟨h.1.mono i,h.2.mono i⟩
theorem oG{w w':World}{b g i:Nat}(h:w'.heap[g]?=w.heap[b]?):w'.frozen? ⟨g,i,none⟩=w.frozen? ⟨b,i,none⟩:=by
 simp only [World.frozen?,h]
theorem rJ{w w':World}{b i:Nat}(h:w'.heap[b]?=w.heap[b]?):w'.cell? ⟨b,i,none⟩=w.cell? ⟨b,i,none⟩:=by
 simp only [World.cell?,h]
theorem cQ{w:World}{b:Nat}{o:Obj}(h:w.heap[b]?=some o):b<w.heap.size:=by
 obtain⟨g,_⟩:=HU.1 h;exact g
theorem Blk.lt{M:Meta}{w:World}{b:Nat}{rc:Array Value}(h:Blk M w b rc):b<w.heap.size:=by
 obtain⟨g,fz,h⟩:=h.at_;exact cQ h
theorem Blk.keep{M M':Meta}{w w':World}{b:Nat}{rc:Array Value}(h:Blk M w b rc)(g:w'.heap[b]?=w.heap[b]?)(m:M'.bsz b=M.bsz b):Blk M' w' b rc:=by
 obtain⟨j,fz,h1⟩:=h.at_;exact⟨⟨j,fz,g.trans h1⟩,λi l=>(oG g).trans (h.free i l),m.trans h.bsz⟩
theorem Inv.wb_lt{M:Meta}{h:Heap}{w:World}(a:Inv M h w){id b:Nat}(e:Wb M h id=some b):b<w.heap.size:=by
 unfold Wb at e
 cases hg:h.get id with
 |cells cs=>
  obtain⟨g,rc,h1,h2,_⟩:=a.cells id cs hg;simp [hg]at e;rw [h1]at e;simp at e;subst e;exact h2.lt
 |free=>simp [hg]at e
 |map es=>
  obtain⟨g,ents,c,h1,h2,_⟩:=a.maps id es hg;simp [hg]at e;rw [h1]at e;simp at e;subst e;exact cQ h2
 |tip n=>
  obtain⟨_,g,e',rc,h1,h2,_⟩:=a.tips id n hg;simp [hg]at e;rw [h1]at e;simp at e;subst e;exact h2.lt
 |dead=>simp [hg]at e
structure NewBlk(w w':World)(o:Obj):Prop where
 new:w'.heap[w.heap.size]?=some o
 old: ∀b,b<w.heap.size->w'.heap[b]?=w.heap[b]?
 size:w'.heap.size=w.heap.size+1
 os:w'.os=w.os
 tape:w'.tape=w.tape
 output:w'.output=w.output
theorem NewBlk.alloc(w:World)(o:Obj):NewBlk w (w.alloc o) o where
 new:=by show(w.heap.push o)[w.heap.size]?=_;simp
 old:=λb g=>by show(w.heap.push o)[b]?=_;rw [FS,if_neg JZ]
 size:=KB
 os:=rfl
 tape:=rfl
 output:=rfl
structure Fresh1(M M':Meta)(h:Heap)(w:World):Prop where
 loc: ∀i,i≠h.next->M'.loc i=M.loc i
 tip: ∀i,i≠h.next->M'.tip i=M.tip i
 cur: ∀i,i≠h.next->M'.cur i=M.cur i
 im: ∀b o,b≠w.heap.size->M'.im b o=M.im b o
 bsz: ∀b,b≠w.heap.size->M'.bsz b=M.bsz b
 nid:M'.nid=M.nid+1
theorem Fresh1.wb{M M':Meta}{h:Heap}{w:World}{x:IObj}(f:Fresh1 M M' h w){id:Nat}(g:id≠h.next):Wb M' (h.push x) id=Wb M h id:=by
 have i:(h.push x).get id=h.get id:=by rw [Heap.get_push,if_neg g]
 simp only [Wb,i,f.loc id g,f.cur id g]
section
variable {M:Meta} {h:Heap} {w w':World} (a:Inv M h w)
include a
theorem Inv.im_lt{b o:Nat}{v:Value}(e:M.im b o=some v):b<w.heap.size:=by
 have:=a.im b o v e;unfold World.cell? at this;split at this
 .rename_i c _ _ g;exact cQ g
 .simp at this
theorem Fresh1.ext{M':Meta}(f:Fresh1 M M' h w):Ext M M' where
 nid:=by have:=f.nid;omega
 loc:=λid b e=>by
  by_cases g:id=h.next
  .have:=a.freshl id JZ;rw [this]at e;simp at e
  .rw [f.loc id g];exact e
 im:=λb o v e=>by rw [f.im b o (by have:=a.im_lt e;omega)];exact e
 bsz:=λb n e=>by rw [f.bsz b (by have:=a.bsz b n e;omega)];exact e
 tip:=λi g=>by rw [f.tip i (by have:=a.nid;omega)];exact AF _
 cur:=λi g _=>by rw [f.cur i (by have:=a.nid;omega)]
theorem Fresh1.inv{M':Meta}{x:IObj}{o:Obj}(f:Fresh1 M M' h w)(l:NewBlk w w' o)
  (hlt: ∀i,h.next<i->M'.loc i=none) (hwb:Wb M' (h.push x) h.next=some w.heap.size)
  (him: ∀g v,M'.im w.heap.size g=some v->w'.cell? ⟨w.heap.size,g,none⟩=some v)
  (hc: ∀cs,x= .cells cs-> ∃rc,M'.loc h.next=some w.heap.size/\Blk M' w' w.heap.size rc/\cs.length<=rc.size/\eP M' cs (rc.toList.take cs.length)/\∀g,M'.im w.heap.size g=none)
  (ht: ∀n,x= .tip n->M'.tip h.next=n/\∃e rc,M'.cur h.next=(w.heap.size,e)/\Blk M' w' w.heap.size rc/\e<=rc.size/\∀g,e<=g->M'.im w.heap.size g=none)
  (hm: ∀u,x= .map u-> ∃ents clock,M'.loc h.next=some w.heap.size/\w'.heap[w.heap.size]?=some (.map ents clock)/\A2 M' u ents.toList/\Zz ents clock) (hx:x≠ .free:=by simp):
  Inv M' (h.push x) w'/\Pres w.heap.size M h w M' (h.push x) w':=by
 have y:=f.ext a;refine⟨?_,?_⟩
 .refine⟨?_,?_,?_,?_,?_,?_,?_,?_,?_,?_⟩
  .rw [f.nid,a.nid,Heap.next_push]
  .intro id m;rw [Heap.next_push]at m;rw [Heap.get_push,if_neg JZ];exact a.fresh id JZ
  .intro id m;rw [Heap.next_push]at m;exact hlt id JZ
  .intro id cs e
   by_cases hi:id=h.next
   .subst hi;rw [Heap.get_push,if_pos rfl]at e;obtain⟨rc,h1,h2⟩:=hc cs e;exact⟨_,rc,h1,h2⟩
   .rw [Heap.get_push,if_neg hi]at e;obtain⟨b,rc,h1,h2,h3,h4,z⟩:=a.cells id cs e;have j:=h2.lt;exact⟨b,rc,(f.loc id hi).trans h1,h2.keep (l.old b j) (f.bsz b JZ),h3,h4.mono y,λg=>(f.im b g JZ).trans (z g)⟩
  .intro id n e
   by_cases hi:id=h.next
   .subst hi;rw [Heap.get_push,if_pos rfl]at e;obtain⟨h0,e',rc,h1,h2⟩:=ht n e;exact⟨h0,_,e',rc,h1,h2⟩
   .rw [Heap.get_push,if_neg hi]at e;obtain⟨h0,b,e',rc,h1,h2,h3,h4⟩:=a.tips id n e;have j:=h2.lt;exact⟨(f.tip id hi).trans h0,b,e',rc,(f.cur id hi).trans h1,h2.keep (l.old b j) (f.bsz b JZ),h3,λg ho=>(f.im b g JZ).trans (h4 g ho)⟩
  .intro id u e
   by_cases hi:id=h.next
   .subst hi;rw [Heap.get_push,if_pos rfl]at e;obtain⟨ents,c,h1,h2⟩:=hm u e;exact⟨_,ents,c,h1,h2⟩
   .rw [Heap.get_push,if_neg hi]at e;obtain⟨b,ents,c,h1,h2,h3⟩:=a.maps id u e;exact⟨b,ents,c,(f.loc id hi).trans h1,(l.old b (cQ h2)).trans h2,h3.1.mono y,h3.2⟩
  .intro b g v e
   by_cases j:b=w.heap.size
   .subst j;exact him g v e
   .rw [f.im b g j]at e;rw [rJ (l.old b (a.im_lt e))];exact a.im b g v e
  .intro b n e;rw [l.size]
   by_cases j:b=w.heap.size
   .omega
   .rw [f.bsz b j]at e;have:=a.bsz b n e;omega
  .intro id r b e e'
   by_cases hi:id=h.next
   .by_cases hi':r=h.next
    .omega
    .rw [f.wb hi']at e';subst hi;rw [hwb]at e;simp at e;have:=a.wb_lt e';omega
   .rw [f.wb hi]at e
    by_cases hi':r=h.next
    .subst hi';rw [hwb]at e';simp at e';have:=a.wb_lt e;omega
    .rw [f.wb hi']at e';exact a.one id r b e e'
  .intro id e
   by_cases hi:id=h.next
   .subst hi;rw [Heap.get_push,if_pos rfl]at e;exact absurd e hx
   .rw [Heap.get_push,if_neg hi]at e;rw [f.loc id hi,f.tip id hi];exact a.resv id e
 .refine⟨y,by rw [l.size];omega,l.os,l.tape,l.output,?_⟩;intro b j A;refine⟨l.old b j,?_,λg=>f.im b g JZ⟩;rintro⟨id,e⟩
  by_cases hi:id=h.next
  .subst hi;rw [hwb]at e;simp at e;omega
  .rw [f.wb hi]at e;exact A ⟨id,e⟩
end
end Go.Pv
end
section
namespace Go.Pv
structure UpdS(S:Nat->Prop)(tb:Nat)(M:Meta)(h:Heap)(w:World)(M':Meta)(h':Heap)(w':World):Prop where
 get: ∀j,¬S j->h'.get j=h.get j
 loc: ∀j,¬S j->M'.loc j=M.loc j
 tip: ∀j,¬S j->M'.tip j=M.tip j
 cur: ∀j,¬S j->M'.cur j=M.cur j
 heap: ∀b,b<w.heap.size->b≠tb->w'.heap[b]?=w.heap[b]?
 im: ∀b o,b≠tb->M'.im b o=M.im b o
 bsz: ∀b,b≠tb->M'.bsz b=M.bsz b
 size:w.heap.size<=w'.heap.size
 os:w'.os=w.os
 tape:w'.tape=w.tape
 output:w'.output=w.output
 own:(∃i,S i/\Wb M h i=some tb) \/tb=w.heap.size
 wb: ∀i b,S i->Wb M' h' i=some b->b=tb
 one: ∀i i',S i->S i'->Wb M' h' i=some tb->Wb M' h' i'=some tb->i=i'
 ext:Ext M M'
 nid:M'.nid=h'.next
 fresh: ∀id,h'.next<=id->h'.get id= .dead
 freshl: ∀id,h'.next<=id->M'.loc id=none
 imtb: ∀off v,M'.im tb off=some v->w'.cell? ⟨tb,off,none⟩=some v
 bsztb: ∀n,M'.bsz tb=some n->tb<w'.heap.size
 cells: ∀i cs,S i->h'.get i= .cells cs-> ∃rc,M'.loc i=some tb/\Blk M' w' tb rc/\cs.length<=rc.size/\eP M' cs (rc.toList.take cs.length)/\∀off,M'.im tb off=none
 tips: ∀i n,S i->h'.get i= .tip n->M'.tip i=n/\∃e rc,M'.cur i=(tb,e)/\Blk M' w' tb rc/\e<=rc.size/\∀off,e<=off->M'.im tb off=none
 maps: ∀i es,S i->h'.get i= .map es-> ∃ents clock,M'.loc i=some tb/\w'.heap[tb]?=some (.map ents clock)/\A2 M' es ents.toList/\Zz ents clock
 resv: ∀i,S i->h'.get i≠ .free
theorem UpdS.done{S:Nat->Prop}{tb:Nat}{M:Meta}{h:Heap}{w:World}{M':Meta}{w':World}(u:UpdS S tb M h w M' g w')(a:Inv M h w):
  Inv M' g w'/\Pres w.heap.size M h w M' g w':=by
 have D:=u.ext;have ne: ∀j b,¬S j->Wb M h j=some b->b≠tb:=by
  intro j b A e m;subst m;rcases u.own with⟨i,l,e'⟩|e'
  .exact A (a.one j i b e e'▸l)
  .have:=a.wb_lt e;omega
 have same: ∀j,¬S j->Wb M' g j=Wb M h j:=by
  intro j A;simp only [Wb,u.get j A,u.loc j A,u.cur j A]
 refine⟨⟨u.nid,u.fresh,u.freshl,?_,?_,?_,?_,?_,?_,λid e=>?_⟩,⟨D,u.size,u.os,u.tape,u.output,?_⟩⟩
 .intro id cs e
  by_cases l:S id
  .obtain⟨rc,h1,h2⟩:=u.cells id cs l e;exact⟨tb,rc,h1,h2⟩
  .rw [u.get id l]at e;obtain⟨b,rc,h1,h2,h3,h4,L⟩:=a.cells id cs e;have m:b≠tb:=ne id b l (by simp [Wb,e,h1]);exact⟨b,rc,(u.loc id l).trans h1,h2.keep (u.heap b h2.lt m) (u.bsz b m),h3,h4.mono D,λr=>(u.im b r m).trans (L r)⟩
 .intro id n e
  by_cases l:S id
  .obtain⟨h0,e',rc,h1,h2⟩:=u.tips id n l e;exact⟨h0,tb,e',rc,h1,h2⟩
  .rw [u.get id l]at e;obtain⟨h0,b,e',rc,h1,h2,h3,h4⟩:=a.tips id n e;have m:b≠tb:=ne id b l (by simp [Wb,e,h1]);exact⟨(u.tip id l).trans h0,b,e',rc,(u.cur id l).trans h1,h2.keep (u.heap b h2.lt m) (u.bsz b m),h3,λr ho=>(u.im b r m).trans (h4 r ho)⟩
 .intro id G e
  by_cases l:S id
  .obtain⟨ents,c,h1,h2⟩:=u.maps id G l e;exact⟨tb,ents,c,h1,h2⟩
  .rw [u.get id l]at e;obtain⟨b,ents,c,h1,h2,h3⟩:=a.maps id G e;have m:b≠tb:=ne id b l (by simp [Wb,e,h1]);exact⟨b,ents,c,(u.loc id l).trans h1,(u.heap b (cQ h2) m).trans h2,h3.1.mono D,h3.2⟩
 .intro b r v e
  by_cases m:b=tb
  .subst m;exact u.imtb r v e
  .rw [u.im b r m]at e;rw [rJ (u.heap b (a.im_lt e) m)];exact a.im b r v e
 .intro b n e
  by_cases m:b=tb
  .subst m;exact u.bsztb n e
  .rw [u.bsz b m]at e;have:=a.bsz b n e;have:=u.size;omega
 .intro id y b e e'
  by_cases l:S id
  .have m:=u.wb id b l e;subst m
   by_cases hi':S y
   .exact u.one id y l hi' e e'
   .rw [same y hi']at e';exact absurd rfl (ne y b hi' e')
  .rw [same id l]at e
   by_cases hi':S y
   .have m:=u.wb y b hi' e';exact absurd m (ne id b l e)
   .rw [same y hi']at e';exact a.one id y b e e'
 .by_cases l:S id
  .exact absurd e (u.resv id l)
  .rw [u.get id l]at e;rw [u.loc id l,u.tip id l];exact a.resv id e
 .intro b m K;have z:b≠tb:=by
   intro e;subst e;rcases u.own with⟨i,l,e'⟩|e'
   .exact K ⟨i,e'⟩
   .omega
  refine⟨u.heap b m z,?_,λr=>u.im b r z⟩;rintro⟨id,e⟩
  by_cases l:S id
  .exact z (u.wb id b l e)
  .rw [same id l]at e;exact K ⟨id,e⟩
section
variable {M:Meta} {h:Heap} {w w':World} (a:Inv M h w)
theorem kP{rc:Array Value}{fz:Nat×Nat}{b:Nat}(g:w'.heap[b]?=some (.cells rc T fz))(hf:fz.2<=fz.1\/rc.size<=fz.1)(i:Nat)(l:i<rc.size):w'.frozen? ⟨b,i,none⟩=false:=by
 obtain⟨lo,j⟩:=fz;simp only [World.frozen?,g];simp only at hf;simp;omega
include a
theorem W8{rc:Array Value}{y:TypeId}{fz:Nat×Nat}(u:NewBlk w w' (.cells rc y fz))(hf:fz.2<=fz.1\/rc.size<=fz.1){cs:Y14}(r:cs.length<=rc.size)(D:eP M cs (rc.toList.take cs.length)):
  ∃M',Inv M' (h.push (.cells cs)) w'/\Pres w.heap.size M h w M' (h.push (.cells cs)) w'/\M'.loc h.next=some w.heap.size/\M'.bsz w.heap.size=some rc.size:=by
 let M':Meta:= {M with nid:=M.nid+1,loc:=λi=>if i=h.next then some w.heap.size else M.loc i,bsz:=λb=>if b=w.heap.size then some rc.size else M.bsz b }
 have l:Fresh1 M M' h w:=⟨λi m=>by simp [M',m],λ_ _=>rfl,λ_ _=>rfl,λ_ _ _=>rfl,λb A=>by simp [M',A],rfl⟩;have j: ∀g,M.im w.heap.size g=none:=by
  intro g
  cases e:M.im w.heap.size g with
  |none=>rfl
  |some v=>have:=a.im_lt e;omega
 have z:=l.ext a;have:=l.inv a (x:= .cells cs) u (λi m=>by simp [M',show i≠h.next by omega,a.freshl i JZ])
  (by simp [Wb,Heap.get_push,M']) (λg v e=>by simp [M',j]at e)
  (λcs' e=>by
   simp at e;subst e;exact⟨rc,by simp [M'],⟨⟨y,fz,u.new⟩,λi m=>kP u.new hf i m,by simp [M']⟩,r,D.mono z,j⟩)
  (λn e=>by simp at e) (λG e=>by simp at e)
 exact⟨M',this.1,this.2,by simp [M'],by simp [M']⟩
theorem c8Y{rc:Array Value}{D:TypeId}{fz:Nat×Nat}(u:NewBlk w w' (.cells rc D fz))(hf:fz.2<=fz.1\/rc.size<=fz.1){cs:Y14}{len sz cap:Nat}(G:cs.length=len*sz)(j:len<=cap)(m:cap*sz<=rc.size)
  (hc:eP M cs (rc.toList.take cs.length)):
  ∃M',Inv M' (h.push (.tip (len*sz))) w'/\Pres w.heap.size M h w M' (h.push (.tip (len*sz))) w'/\VR M' (.vslice (some h.next) (len*sz) len sz cs) (.slice (some ⟨w.heap.size,0,none⟩) len cap):=by
 have z:cs.length<=rc.size:=by
  have:len*sz<=cap*sz:=CE _ j;omega
 let M':Meta:= {M with nid:=M.nid+1,tip:=λi=>if i=h.next then cs.length else M.tip i,cur:=λi=>if i=h.next then(w.heap.size,cs.length)else M.cur i,im:=λb o=>if b=w.heap.size then(if o<cs.length then rc[o]? else none)else M.im b o,bsz:=λb=>if b=w.heap.size then some rc.size else M.bsz b }
 have r:Fresh1 M M' h w:=⟨λ_ _=>rfl,λi g=>by simp [M',g],λi g=>by simp [M',g],λb o y=>by simp [M',y],λb y=>by simp [M',y],rfl⟩;have K:=r.ext a;rw [<-G];have:=r.inv a (x:= .tip cs.length) u (λi g=>a.freshl i JZ)
  (by simp [Wb,Heap.get_push,M']) (λA v e=>by
   simp only [M',if_true]at e;split at e
   .simp only [World.cell?,u.new,DD,BA,if_false];exact e
   .simp at e)
  (λcs' e=>by simp at e)
  (λn e=>by
   simp at e;subst e;exact⟨by simp [M'],cs.length,rc,by simp [M'],⟨⟨D,fz,u.new⟩,λi g=>kP u.new hf i g,by simp [M']⟩,z,λA ho=>by simp [M'];omega⟩)
  (λL e=>by simp at e)
 refine⟨M',this.1,this.2,?_⟩;have l:=hc.mono K;refine .vslice ⟨w.heap.size,0,none⟩ (λi=>rc.getD i undef) G j (.inr ⟨rfl,rc.size,by simp [M'],by simpa using m⟩) ?_ ?_ l.2 ?_ KB
 .intro i g;simp [M',g,show i<rc.size by omega]
 .intro i g;have:=l.1.2 i g (by simp;omega);simpa [show i<rc.size by omega]using this
 .intro i e;simp at e;subst e;exact⟨by show h.next<M.nid+1;rw [a.nid];omega,AF _,by simp [M'],λ_=> .inr (by simp [M'])⟩
theorem c8W{rc:Array Value}{A:TypeId}{fz:Nat×Nat}(l:NewBlk w w' (.cells rc A fz)){cs:Y14}{len sz:Nat}(G:cs.length=len*sz)(h0:0<sz)(m:eP M cs rc.toList):
  ∃M',Inv M' h w'/\Pres w.heap.size M h w M' h w'/\VR M' (.vslice none 1 len sz cs) (.slice (some ⟨w.heap.size,0,none⟩) len len):=by
 have K:rc.size=cs.length:=by have:=m.len;simpa using this.symm
 let M':Meta:= {M with im:=λb o=>if b=w.heap.size then rc[o]? else M.im b o,bsz:=λb=>if b=w.heap.size then some rc.size else M.bsz b }
 have u:Ext M M':=⟨AF _,λ_ _ x=>x,λc o v x=>by
  simp only [M'];rw [if_neg (by have:=a.im_lt x;omega)];exact x,λc z x=>by
  simp only [M'];rw [if_neg (by have:=a.bsz c z x;omega)];exact x,λ_ _=>AF _,λ_ _ _=>rfl⟩
 have g:Inv M' h w'/\Pres w.heap.size M h w M' h w':=by
  refine UpdS.done (S:=λ_=>False) (tb:=w.heap.size) ?_ a;refine {
   get:=λ_ _=>rfl,loc:=λ_ _=>rfl,tip:=λ_ _=>rfl,cur:=λ_ _=>rfl,heap:=λj D _=>l.old j D,im:=λc o m=>by simp [M',m],bsz:=λc m=>by simp [M',m],size:=(by rw [l.size];omega),
   os:=l.os,tape:=l.tape,output:=l.output,own:= .inr rfl,wb:=λ_ _ hf=>hf.elim,one:=λ_ _ hf=>hf.elim,ext:=u,nid:=a.nid,fresh:=a.fresh,freshl:=a.freshl,imtb:=?_,bsztb:=?_,cells:=λ_ _ hf=>hf.elim,tips:=λ_ _ hf=>hf.elim,maps:=λ_ _ hf=>hf.elim,resv:=λ_ hf=>hf.elim }
  .intro L v x;simp only [M',if_true]at x;simp only [World.cell?,l.new,DD,BA,if_false];exact x
  .intro z x;rw [l.size];omega
 refine⟨M',g.1,g.2,?_⟩;have r:=m.mono u;refine .vslice ⟨w.heap.size,0,none⟩ (λi=>rc.getD i undef) G (AF _) (.inr ⟨rfl,rc.size,by simp [M'],by simp;omega⟩) ?_ ?_ r.2 KB (λ_=> .inr ⟨rfl,rfl,h0⟩)
 .intro i y;simp [M',show i<rc.size by omega]
 .intro i y;have:=r.1.2 i y (by simp;omega);simpa [show i<rc.size by omega]using this
theorem c8X(r:NewBlk w w' (.map #[] 0)): ∃M',Inv M' (h.push (.map [])) w'/\Pres w.heap.size M h w M' (h.push (.map [])) w'/\M'.loc h.next=some w.heap.size:=by
 let M':Meta:= {M with nid:=M.nid+1,loc:=λi=>if i=h.next then some w.heap.size else M.loc i }
 have l:Fresh1 M M' h w:=⟨λi m=>by simp [M',m],λ_ _=>rfl,λ_ _=>rfl,λ_ _ _=>rfl,λ_ _=>rfl,rfl⟩;have j: ∀g,M.im w.heap.size g=none:=by
  intro g
  cases e:M.im w.heap.size g with
  |none=>rfl
  |some v=>have:=a.im_lt e;omega
 have:=l.inv a (x:= .map []) r (λi m=>by simp [M',show i≠h.next by omega,a.freshl i JZ])
  (by simp [Wb,Heap.get_push,M']) (λg v e=>by simp [M',j]at e)
  (λcs' e=>by simp at e) (λn e=>by simp at e)
  (λu e=>by simp at e;subst e;exact⟨#[],0,by simp [M'],r.new,⟨cU.nil _,cU.nil _⟩,Zz.nil⟩)
 exact⟨M',this.1,this.2,by simp [M']⟩
theorem Oy{id b:Nat}{cs cs':Y14}(r:h.get id= .cells cs)(m:M.loc id=some b)(hk: ∀k,k≠b->w'.heap[k]?=w.heap[k]?)(D:w'.heap.size=w.heap.size)
  (hr:w'.os=w.os/\w'.tape=w.tape/\w'.output=w.output) (hB:Blk M w' b H) (hle:cs'.length<=H.size) (hc:eP M cs' (H.toList.take cs'.length)):
  Inv M (h.set id (.cells cs')) w'/\Pres w.heap.size M h w M (h.set id (.cells cs')) w':=by
 obtain⟨K,rc,h1,h2,h3,h4,z⟩:=a.cells id cs r;rw [m]at h1;simp at h1;subst h1;refine UpdS.done (S:=λj=>j=id) (tb:=b) ?_ a;refine {
  get:=λj l=>by rw [Heap.get_set,if_neg l],loc:=λ_ _=>rfl,tip:=λ_ _=>rfl,cur:=λ_ _=>rfl,heap:=λk _ u=>hk k u,im:=λ_ _ _=>rfl,bsz:=λ_ _=>rfl,size:=JZ,
  os:=hr.1,tape:=hr.2.1,output:=hr.2.2,own:= .inl ⟨id,rfl,by simp [Wb,r,m]⟩,wb:=?_,one:=λi L e e' _ _=>e.trans e'.symm,ext:=Ext.refl M,nid:=a.nid,fresh:=?_,freshl:=a.freshl,imtb:=?_,bsztb:=?_,cells:=?_,tips:=?_,maps:=?_,resv:=λi A e=>by subst A;simp [Heap.get_set]at e }
 .intro i k e ew;subst e;simp [Wb,Heap.get_set,m]at ew;exact ew.symm
 .intro j l;rw [Heap.next_set]at l;rw [Heap.get_set,if_neg]
  .exact a.fresh j l
  .intro e;subst e;rw [a.fresh j l]at r;simp at r
 .intro G v e;rw [z]at e;simp at e
 .intro n e;exact D▸a.bsz b n e
 .intro i y e g;subst e;simp [Heap.get_set]at g;subst g;exact⟨H,m,hB,hle,hc,z⟩
 .intro i n e g;subst e;simp [Heap.get_set]at g
 .intro i n e g;subst e;simp [Heap.get_set]at g
theorem Sw{id b:Nat}{A es':List (IV×IV)}{ents:Array MapEntry}{clock:Nat}(r:h.get id= .map A)(m:M.loc id=some b)(hk: ∀k,k≠b->w'.heap[k]?=w.heap[k]?)(K:w'.heap.size=w.heap.size)
  (hr:w'.os=w.os/\w'.tape=w.tape/\w'.output=w.output) (hB:w'.heap[b]?=some (.map ents clock)) (hc:A2 M es' ents.toList/\Zz ents clock):
  Inv M (h.set id (.map es')) w'/\Pres w.heap.size M h w M (h.set id (.map es')) w':=by
 obtain⟨L,u,O,h1,h2,h3⟩:=a.maps id A r;rw [m]at h1;simp at h1;subst h1;refine UpdS.done (S:=λj=>j=id) (tb:=b) ?_ a;refine {
  get:=λj l=>by rw [Heap.get_set,if_neg l],loc:=λ_ _=>rfl,tip:=λ_ _=>rfl,cur:=λ_ _=>rfl,heap:=λk _ y=>hk k y,im:=λ_ _ _=>rfl,bsz:=λ_ _=>rfl,size:=JZ,
  os:=hr.1,tape:=hr.2.1,output:=hr.2.2,own:= .inl ⟨id,rfl,by simp [Wb,r,m]⟩,wb:=?_,one:=λi R e e' _ _=>e.trans e'.symm,ext:=Ext.refl M,nid:=a.nid,fresh:=?_,freshl:=a.freshl,imtb:=?_,bsztb:=?_,cells:=?_,tips:=?_,maps:=?_,resv:=λi G e=>by subst G;simp [Heap.get_set]at e }
 .intro i k e ew;subst e;simp [Wb,Heap.get_set,m]at ew;exact ew.symm
 .intro j l;rw [Heap.next_set]at l;rw [Heap.get_set,if_neg]
  .exact a.fresh j l
  .intro e;subst e;rw [a.fresh j l]at r;simp at r
 .intro z v e;have:=a.im b z v e;simp [World.cell?,h2]at this
 .intro n e;exact K▸a.bsz b n e
 .intro i n e g;subst e;simp [Heap.get_set]at g
 .intro i n e g;subst e;simp [Heap.get_set]at g
 .intro i D e g;subst e;simp [Heap.get_set]at g;subst g;exact⟨ents,clock,m,hB,hc⟩
theorem c4B{id e k b g:Nat}{rc m:Array Value}(D:h.get id= .tip e)(z:M.cur id=(b,g))(Y:Blk M w b rc)(y: ∃K fz,w'.heap[b]?=some (.cells m K fz))(R: ∀i,i<m.size->w'.frozen? ⟨b,i,none⟩=false)
  (hsz:m.size=rc.size) (hpos:g+k<=rc.size) (hold: ∀i,i<g->m[i]?=rc[i]?) (hk0:0<k)
  (hk: ∀j,j≠b->w'.heap[j]?=w.heap[j]?) (hs:w'.heap.size=w.heap.size) (hr:w'.os=w.os/\w'.tape=w.tape/\w'.output=w.output):
  ∃M',Inv M' (h.set id (.tip (e+k))) w'/\Pres w.heap.size M h w M' (h.set id (.tip (e+k))) w'/\M'.tip id=e+k/\M'.cur id=(b,g+k)/\M'.nid=M.nid/\M'.bsz=M.bsz/\
   (∀i,i<k->M'.im b (g+i)=m[g+i]?):=by
 obtain⟨h0,b',e',a2,h1,h2,h3,h4⟩:=a.tips id e D;rw [z]at h1;simp at h1;obtain⟨rfl,rfl⟩:=h1;obtain⟨K,fz,y⟩:=y
 let M':Meta:= {M with tip:=λi=>if i=id then e+k else M.tip i,cur:=λi=>if i=id then(b,g+k)else M.cur i,im:=λc o=>if c=b/\g<=o/\o<g+k then m[o]? else M.im c o }
 have T:id<h.next:=by
  rcases BK id h.next with V|V
  .exact V
  .rw [a.fresh id V]at D;simp at D
 have hE:Ext M M':=⟨AF _,λ_ _ x=>x,λc o v x=>by
  simp only [M'];split
  .rename_i O;obtain⟨rfl,q1,q2⟩:=O;rw [h4 o q1]at x;simp at x
  .exact x,λ_ _ x=>x,λi G=>by
   simp only [M'];split
   .rename_i e;subst e;omega
   .exact AF _,λi G Z=>by
   simp only [M']at Z⊢;split at Z
   .rename_i e;subst e;omega
   .rename_i e;rw [if_neg e]⟩
 refine⟨M',?_⟩;have r:Inv M' (h.set id (.tip (e+k))) w'/\Pres w.heap.size M h w M' (h.set id (.tip (e+k))) w':=by
  refine UpdS.done (S:=λj=>j=id) (tb:=b) ?_ a;refine {
   get:=λj u=>by rw [Heap.get_set,if_neg u],loc:=λ_ _=>rfl,tip:=λj u=>by simp [M',u],cur:=λj u=>by simp [M',u],heap:=λj _ u=>hk j u,im:=λc o O=>by simp [M',O],bsz:=λ_ _=>rfl,size:=JZ,
   os:=hr.1,tape:=hr.2.1,output:=hr.2.2,own:= .inl ⟨id,rfl,by simp [Wb,D,z]⟩,wb:=?_,one:=λi i' e e' _ _=>e.trans e'.symm,ext:=hE,nid:=a.nid,fresh:=?_,freshl:=a.freshl,imtb:=?_,bsztb:=?_,cells:=?_,tips:=?_,maps:=?_,resv:=λi G e=>by subst G;simp [Heap.get_set]at e }
  .intro i c e ew;subst e;simp [Wb,Heap.get_set,M']at ew;exact ew.symm
  .intro j u;rw [Heap.next_set]at u;rw [Heap.get_set,if_neg JZ];exact a.fresh j u
  .intro l v x;simp only [M']at x;simp only [World.cell?,y,DD,BA,if_false];split at x
   .exact x
   .have:=a.im b l v x;have X:l<g:=by
     rcases BK l g with q|q
     .exact q
     .rw [h4 l q]at x;simp at x
    obtain⟨a0,a1,L⟩:=Y.at_;simp only [World.cell?,L,DD,BA,if_false]at this;rw [hold l X];exact this
  .intro n x;exact hs▸a.bsz b n x
  .intro i n e A;subst e;simp [Heap.get_set]at A
  .intro i n e A;subst e;simp [Heap.get_set]at A;subst A;refine⟨by simp [M'],g+k,m,by simp [M'],⟨⟨K,fz,y⟩,R,by show M.bsz b=_;rw [Y.bsz,hsz]⟩,JZ,λl ho=>?_⟩;simp only [M'];rw [if_neg JZ];exact h4 l JZ
  .intro i n e A;subst e;simp [Heap.get_set]at A
 refine⟨r.1,r.2,by simp [M'],by simp [M'],rfl,rfl,λi G=>?_⟩;simp only [M'];rw [if_pos ⟨trivial,JZ,JZ⟩]
theorem d1G{id e k n:Nat}{rc:Array Value}{fz:Nat×Nat}(z:h.get id= .tip e)(m:NewBlk w w' (.cells rc T fz))(hf:fz.2<=fz.1\/rc.size<=fz.1)(V:n<=rc.size)(R:0<k):
  ∃M',Inv M' (h.set id (.tip (e+k))) w'/\Pres w.heap.size M h w M' (h.set id (.tip (e+k))) w'/\M'.tip id=e+k/\M'.cur id=(w.heap.size,n)/\M'.nid=M.nid/\M'.bsz w.heap.size=some rc.size/\
   (∀i,i<n->M'.im w.heap.size i=rc[i]?):=by
 obtain⟨h0,Y,e',X,h1,h2,h3,h4⟩:=a.tips id e z
 let M':Meta:= {M with tip:=λi=>if i=id then e+k else M.tip i,cur:=λi=>if i=id then(w.heap.size,n)else M.cur i,im:=λc o=>if c=w.heap.size then(if o<n then rc[o]? else none)else M.im c o,bsz:=λb=>if b=w.heap.size then some rc.size else M.bsz b }
 have A:id<h.next:=by
  rcases BK id h.next with D|D
  .exact D
  .rw [a.fresh id D]at z;simp at z
 have O:Ext M M':=⟨AF _,λ_ _ x=>x,λc o v x=>by
  simp only [M'];rw [if_neg (by have:=a.im_lt x;omega)];exact x,λc G x=>by
  simp only [M'];rw [if_neg (by have:=a.bsz c G x;omega)];exact x,λi r=>by
   simp only [M'];split
   .rename_i e;subst e;omega
   .exact AF _,λi r L=>by
   simp only [M']at L⊢;split at L
   .rename_i e;subst e;omega
   .rename_i e;rw [if_neg e]⟩
 refine⟨M',?_⟩;have g:Inv M' (h.set id (.tip (e+k))) w'/\Pres w.heap.size M h w M' (h.set id (.tip (e+k))) w':=by
  refine UpdS.done (S:=λj=>j=id) (tb:=w.heap.size) ?_ a;refine {
   get:=λj l=>by rw [Heap.get_set,if_neg l],loc:=λ_ _=>rfl,tip:=λj l=>by simp [M',l],cur:=λj l=>by simp [M',l],heap:=λj l _=>m.old j l,im:=λc o y=>by simp [M',y],bsz:=λc y=>by simp [M',y],size:=(by rw [m.size];omega),
   os:=m.os,tape:=m.tape,output:=m.output,own:= .inr rfl,wb:=?_,one:=λi Z e e' _ _=>e.trans e'.symm,ext:=O,nid:=a.nid,fresh:=?_,freshl:=a.freshl,imtb:=?_,bsztb:=?_,cells:=?_,tips:=?_,maps:=?_,resv:=λi r e=>by subst r;simp [Heap.get_set]at e }
  .intro i c e ew;subst e;simp [Wb,Heap.get_set,M']at ew;exact ew.symm
  .intro j l;rw [Heap.next_set]at l;rw [Heap.get_set,if_neg JZ];exact a.fresh j l
  .intro K v x;simp only [M',if_true]at x;simp only [World.cell?,m.new,DD,BA,if_false];split at x
   .exact x
   .simp at x
  .intro G x;rw [m.size];omega
  .intro i n e u;subst e;simp [Heap.get_set]at u
  .intro i G e u;subst e;simp [Heap.get_set]at u;subst u;exact⟨by simp [M'],n,rc,by simp [M'],⟨⟨T,fz,m.new⟩,λi r=>kP m.new hf i r,by simp [M']⟩,V,λK ho=>by simp [M'];omega⟩
  .intro i n e u;subst e;simp [Heap.get_set]at u
 refine⟨g.1,g.2,by simp [M'],by simp [M'],rfl,by simp [M'],λi r=>?_⟩;simp only [M',if_true];rw [if_pos r]
theorem a1N{id b:Nat}{cs cs':Y14}(r:h.get id= .cells cs)(O:M.loc id=some b)(hk: ∀k,k≠b->w'.heap[k]?=w.heap[k]?)(T:w'.heap.size=w.heap.size)
  (hr:w'.os=w.os/\w'.tape=w.tape/\w'.output=w.output) (hB:Blk M w' b H) (hle:cs'.length<=H.size) (hc:eP M cs' (H.toList.take cs'.length)):
  ∃M',Inv M' ((h.set id .dead).push (.cells cs')) w'/\Pres w.heap.size M h w M' ((h.set id .dead).push (.cells cs')) w'/\M'.loc h.next=some b/\M'.bsz b=some H.size:=by
 obtain⟨X,rc,h1,h2,h3,h4,K⟩:=a.cells id cs r;rw [O]at h1;simp at h1;subst h1;have u:id<h.next:=by
  rcases BK id h.next with A|A
  .exact A
  .rw [a.fresh id A]at r;simp at r
 let M':Meta:= {M with nid:=M.nid+1,loc:=λi=>if i=h.next then some b else M.loc i }
 have L:Ext M M':=⟨by simp [M'],λi c x=>by
  simp only [M'];rw [if_neg];exact x;intro e;subst e;rw [a.freshl _ (AF _)]at x;simp at x,λ_ _ _ x=>x,λ_ _ x=>x,λ_ _=>AF _,λ_ _ _=>rfl⟩
 refine⟨M',?_⟩;have g: ∀j,((h.set id .dead).push (.cells cs')).get j=if j=h.next then .cells cs' else if j=id then .dead else h.get j:=by
  intro j;rw [Heap.get_push,Heap.next_set,Heap.get_set]
 have l:Inv M' ((h.set id .dead).push (.cells cs')) w'/\Pres w.heap.size M h w M' ((h.set id .dead).push (.cells cs')) w':=by
  refine UpdS.done (S:=λj=>j=id\/j=h.next) (tb:=b) ?_ a;have G:Wb M' ((h.set id .dead).push (.cells cs')) id=none:=by simp [Wb,g,show id≠h.next by omega]
  have V:Wb M' ((h.set id .dead).push (.cells cs')) h.next=some b:=by simp [Wb,g,M']
  refine {
   get:=λj m=>by rw [g,if_neg (λe=>m (.inr e)),if_neg (λe=>m (.inl e))],loc:=λj m=>by simp [M',show j≠h.next from λe=>m (.inr e)],tip:=λ_ _=>rfl,cur:=λ_ _=>rfl,heap:=λk _ z=>hk k z,im:=λ_ _ _=>rfl,bsz:=λ_ _=>rfl,size:=JZ,
   os:=hr.1,tape:=hr.2.1,output:=hr.2.2,own:= .inl ⟨id,.inl rfl,by simp [Wb,r,O]⟩,wb:=?_,one:=?_,ext:=L,nid:=?_,fresh:=?_,freshl:=?_,imtb:=?_,bsztb:=?_,cells:=?_,tips:=?_,maps:=?_,resv:=λi R e=>by rw [g]at e;rcases R with rfl|rfl<;>(repeat' split at e)<;>simp_all }
  .rintro i c (rfl|rfl) ew
   .rw [G]at ew;simp at ew
   .rw [V]at ew;simp at ew;exact ew.symm
  .rintro i i' (rfl|rfl) (rfl|rfl) e1 e2
   .rfl
   .rw [G]at e1;simp at e1
   .rw [G]at e2;simp at e2
   .rfl
  .show M.nid+1=_;rw [a.nid];rfl
  .intro j m;have y:h.next+1<=j:=m;rw [g,if_neg JZ,if_neg JZ];exact a.fresh j JZ
  .intro j m;have y:h.next+1<=j:=m;simp only [M'];rw [if_neg JZ];exact a.freshl j JZ
  .intro D v e;have e':M.im b D=some v:=e;rw [K]at e';simp at e'
  .intro n e;exact T▸a.bsz b n e
  .rintro i cs'' (rfl|rfl) eg
   .rw [g,if_neg JZ]at eg;simp at eg
   .rw [g,if_pos rfl]at eg;simp at eg;subst eg;exact⟨H,by simp [M'],⟨hB.at_,hB.free,hB.bsz⟩,hle,hc.mono L,K⟩
  .rintro i n (rfl|rfl) eg
   .rw [g,if_neg JZ]at eg;simp at eg
   .rw [g,if_pos rfl]at eg;simp at eg
  .rintro i n (rfl|rfl) eg
   .rw [g,if_neg JZ]at eg;simp at eg
   .rw [g,if_pos rfl]at eg;simp at eg
 exact⟨l.1,l.2,by simp [M'],hB.bsz⟩
theorem b0P{id:Nat}{cs cs':Y14}{rc:Array Value}{fz:Nat×Nat}(X:h.get id= .cells cs)(y:NewBlk w w' (.cells rc T fz))(hf:fz.2<=fz.1\/rc.size<=fz.1)(O:cs'.length<=rc.size)(z:eP M cs' (rc.toList.take cs'.length)):
  ∃M',Inv M' ((h.set id .dead).push (.cells cs')) w'/\Pres w.heap.size M h w M' ((h.set id .dead).push (.cells cs')) w'/\M'.loc h.next=some w.heap.size/\M'.bsz w.heap.size=some rc.size:=by
 have D:id<h.next:=by
  rcases BK id h.next with L|L
  .exact L
  .rw [a.fresh id L]at X;simp at X
 let M':Meta:= {M with nid:=M.nid+1,loc:=λi=>if i=h.next then some w.heap.size else M.loc i,bsz:=λb=>if b=w.heap.size then some rc.size else M.bsz b }
 have V:Ext M M':=⟨by simp [M'],λi c x=>by
  simp only [M'];rw [if_neg];exact x;intro e;subst e;rw [a.freshl _ (AF _)]at x;simp at x,λ_ _ _ x=>x,λc n x=>by
  simp only [M'];rw [if_neg (by have:=a.bsz c n x;omega)];exact x,λ_ _=>AF _,λ_ _ _=>rfl⟩
 have r: ∀m,M.im w.heap.size m=none:=by
  intro m
  cases e:M.im w.heap.size m with
  |none=>rfl
  |some v=>have:=a.im_lt e;omega
 refine⟨M',?_⟩;have g: ∀j,((h.set id .dead).push (.cells cs')).get j=if j=h.next then .cells cs' else if j=id then .dead else h.get j:=by
  intro j;rw [Heap.get_push,Heap.next_set,Heap.get_set]
 have l:Inv M' ((h.set id .dead).push (.cells cs')) w'/\Pres w.heap.size M h w M' ((h.set id .dead).push (.cells cs')) w':=by
  refine UpdS.done (S:=λj=>j=id\/j=h.next) (tb:=w.heap.size) ?_ a;have R:Wb M' ((h.set id .dead).push (.cells cs')) id=none:=by simp [Wb,g,show id≠h.next by omega]
  have Y:Wb M' ((h.set id .dead).push (.cells cs')) h.next=some w.heap.size:=by simp [Wb,g,M']
  refine {
   get:=λj u=>by rw [g,if_neg (λe=>u (.inr e)),if_neg (λe=>u (.inl e))],loc:=λj u=>by simp [M',show j≠h.next from λe=>u (.inr e)],tip:=λ_ _=>rfl,cur:=λ_ _=>rfl,heap:=λk K _=>y.old k K,im:=λ_ _ _=>rfl,bsz:=λc z=>by simp [M',z],size:=(by rw [y.size];omega),
   os:=y.os,tape:=y.tape,output:=y.output,own:= .inr rfl,wb:=?_,one:=?_,ext:=V,nid:=?_,fresh:=?_,freshl:=?_,imtb:=?_,bsztb:=?_,cells:=?_,tips:=?_,maps:=?_,resv:=λi A e=>by rw [g]at e;rcases A with rfl|rfl<;>(repeat' split at e)<;>simp_all }
  .rintro i c (rfl|rfl) ew
   .rw [R]at ew;simp at ew
   .rw [Y]at ew;simp at ew;exact ew.symm
  .rintro i i' (rfl|rfl) (rfl|rfl) e1 e2
   .rfl
   .rw [R]at e1;simp at e1
   .rw [R]at e2;simp at e2
   .rfl
  .show M.nid+1=_;rw [a.nid];rfl
  .intro j u;have G:h.next+1<=j:=u;rw [g,if_neg JZ,if_neg JZ];exact a.fresh j JZ
  .intro j u;have G:h.next+1<=j:=u;simp only [M'];rw [if_neg JZ];exact a.freshl j JZ
  .intro m v e;have e':M.im w.heap.size m=some v:=e;rw [r]at e';simp at e'
  .intro n e;rw [y.size];omega
  .rintro i cs'' (rfl|rfl) eg
   .rw [g,if_neg JZ]at eg;simp at eg
   .rw [g,if_pos rfl]at eg;simp at eg;subst eg;exact⟨rc,by simp [M'],⟨⟨T,fz,y.new⟩,λi A=>kP y.new hf i A,by simp [M']⟩,O,z.mono V,r⟩
  .rintro i n (rfl|rfl) eg
   .rw [g,if_neg JZ]at eg;simp at eg
   .rw [g,if_pos rfl]at eg;simp at eg
  .rintro i n (rfl|rfl) eg
   .rw [g,if_neg JZ]at eg;simp at eg
   .rw [g,if_pos rfl]at eg;simp at eg
 exact⟨l.1,l.2,by simp [M'],by simp [M']⟩
end
end Go.Pv
end
section
namespace Go.Pv
open Go
section
variable {M:Meta} {h:Heap} {w w':World} (a:Inv M h w)
include a
theorem Inv.res_lt{n:Nat}(hf:h.get n= .free):n<h.next:=by
 rcases BK n h.next with g|g
 .exact g
 .rw [a.fresh n g]at hf;simp at hf
theorem Inv.im_none(g:Nat):M.im w.heap.size g=none:=by
 cases e:M.im w.heap.size g with
 |none=>rfl
 |some v=>have:=a.im_lt e;omega
theorem Np{n:Nat}(R:h.get n= .free){rc:Array Value}{L:TypeId}{fz:Nat×Nat}(l:NewBlk w w' (.cells rc L fz))(hf:fz.2<=fz.1\/rc.size<=fz.1){cs:Y14}(G:cs.length<=rc.size)(z:eP M cs (rc.toList.take cs.length)):
  ∃M',Inv M' (h.set n (.cells cs)) w'/\Pres w.heap.size M h w M' (h.set n (.cells cs)) w'/\M'.loc n=some w.heap.size/\M'.bsz w.heap.size=some rc.size:=by
 obtain⟨r1,X⟩:=a.resv n R;have T:=a.res_lt R
 let M':Meta:= {M with loc:=λi=>if i=n then some w.heap.size else M.loc i,bsz:=λb=>if b=w.heap.size then some rc.size else M.bsz b }
 have O:Ext M M':=⟨AF _,λi c x=>by
  simp only [M'];rw [if_neg];exact x;intro e;subst e;rw [r1]at x;simp at x,λ_ _ _ x=>x,λc k x=>by
  simp only [M'];rw [if_neg (by have:=a.bsz c k x;omega)];exact x,λ_ _=>AF _,λ_ _ _=>rfl⟩
 have g:Inv M' (h.set n (.cells cs)) w'/\Pres w.heap.size M h w M' (h.set n (.cells cs)) w':=by
  refine UpdS.done (S:=λj=>j=n) (tb:=w.heap.size) ?_ a;refine {
   get:=λj m=>by rw [Heap.get_set,if_neg m],loc:=λj m=>by simp [M',show j≠n from m],tip:=λ_ _=>rfl,cur:=λ_ _=>rfl,heap:=λk D _=>l.old k D,im:=λ_ _ _=>rfl,bsz:=λc z=>by simp [M',z],size:=(by rw [l.size];omega),
   os:=l.os,tape:=l.tape,output:=l.output,own:= .inr rfl,wb:=?_,one:=λi V e e' _ _=>e.trans e'.symm,ext:=O,nid:=a.nid,fresh:=?_,freshl:=?_,imtb:=?_,bsztb:=?_,cells:=?_,tips:=?_,maps:=?_,resv:=λi A e=>by subst A;simp [Heap.get_set]at e }
  .rintro i c rfl ew;simp [Wb,Heap.get_set,M']at ew;exact ew.symm
  .intro j m;have r:h.next<=j:=m;rw [Heap.get_set,if_neg JZ];exact a.fresh j r
  .intro j m;have r:h.next<=j:=m;simp only [M'];rw [if_neg JZ];exact a.freshl j r
  .intro u v e;have e':M.im w.heap.size u=some v:=e;rw [a.im_none]at e';simp at e'
  .intro k e;rw [l.size];omega
  .rintro i K rfl y;simp [Heap.get_set]at y;subst y;exact⟨rc,by simp [M'],⟨⟨L,fz,l.new⟩,λi A=>kP l.new hf i A,by simp [M']⟩,G,z.mono O,λu=>a.im_none u⟩
  .rintro i k rfl y;simp [Heap.get_set]at y
  .rintro i k rfl y;simp [Heap.get_set]at y
 exact⟨M',g.1,g.2,by simp [M'],by simp [M']⟩
theorem c8K{n:Nat}(D:h.get n= .free)(r:NewBlk w w' (.map #[] 0)):
  ∃M',Inv M' (h.set n (.map [])) w'/\Pres w.heap.size M h w M' (h.set n (.map [])) w'/\M'.loc n=some w.heap.size:=by
 obtain⟨r1,V⟩:=a.resv n D;have L:=a.res_lt D
 let M':Meta:= {M with loc:=λi=>if i=n then some w.heap.size else M.loc i }
 have G:Ext M M':=⟨AF _,λi c x=>by
  simp only [M'];rw [if_neg];exact x;intro e;subst e;rw [r1]at x;simp at x,λ_ _ _ x=>x,λc k x=>x,λ_ _=>AF _,λ_ _ _=>rfl⟩
 have g:Inv M' (h.set n (.map [])) w'/\Pres w.heap.size M h w M' (h.set n (.map [])) w':=by
  refine UpdS.done (S:=λj=>j=n) (tb:=w.heap.size) ?_ a;refine {
   get:=λj l=>by rw [Heap.get_set,if_neg l],loc:=λj l=>by simp [M',show j≠n from l],tip:=λ_ _=>rfl,cur:=λ_ _=>rfl,heap:=λk y _=>r.old k y,im:=λ_ _ _=>rfl,bsz:=λc R=>rfl,size:=(by rw [r.size];omega),
   os:=r.os,tape:=r.tape,output:=r.output,own:= .inr rfl,wb:=?_,one:=λi T e e' _ _=>e.trans e'.symm,ext:=G,nid:=a.nid,fresh:=?_,freshl:=?_,imtb:=?_,bsztb:=?_,cells:=?_,tips:=?_,maps:=?_,resv:=λi K e=>by subst K;simp [Heap.get_set]at e }
  .rintro i c rfl ew;simp [Wb,Heap.get_set,M']at ew;exact ew.symm
  .intro j l;have m:h.next<=j:=l;rw [Heap.get_set,if_neg JZ];exact a.fresh j m
  .intro j l;have m:h.next<=j:=l;simp only [M'];rw [if_neg JZ];exact a.freshl j m
  .intro z v e;have e':M.im w.heap.size z=some v:=e;rw [a.im_none]at e';simp at e'
  .intro k e;rw [r.size];omega
  .rintro i A rfl u;simp [Heap.get_set]at u
  .rintro i k rfl u;simp [Heap.get_set]at u
  .rintro i O rfl u;simp [Heap.get_set]at u;subst u;exact⟨#[],0,by simp [M'],r.new,⟨cU.nil _,cU.nil _⟩,Zz.nil⟩
 exact⟨M',g.1,g.2,by simp [M']⟩
theorem c8L{n:Nat}(Z:h.get n= .free){rc:Array Value}{V:TypeId}{fz:Nat×Nat}(m:NewBlk w w' (.cells rc V fz))(hf:fz.2<=fz.1\/rc.size<=fz.1){cs:Y14}{len sz cap:Nat}(Y:cs.length=len*sz)(h0:0<cs.length)(r:len<=cap)(D:cap*sz<=rc.size)
  (z:eP M cs (rc.toList.take cs.length)):
  ∃M',Inv M' (h.set n (.tip (len*sz))) w'/\Pres w.heap.size M h w M' (h.set n (.tip (len*sz))) w'/\VR M' (.vslice (some n) (len*sz) len sz cs) (.slice (some ⟨w.heap.size,0,none⟩) len cap):=by
 obtain⟨r1,r2⟩:=a.resv n Z;have O:=a.res_lt Z;have L:cs.length<=rc.size:=by
  have:len*sz<=cap*sz:=CE _ r;omega
 let M':Meta:= {M with tip:=λi=>if i=n then cs.length else M.tip i,cur:=λi=>if i=n then(w.heap.size,cs.length)else M.cur i,im:=λb o=>if b=w.heap.size then(if o<cs.length then rc[o]? else none)else M.im b o,bsz:=λb=>if b=w.heap.size then some rc.size else M.bsz b }
 have X:Ext M M':=⟨AF _,λ_ _ x=>x,λc o v x=>by
  simp only [M'];rw [if_neg (by have:=a.im_lt x;omega)];exact x,λc k x=>by
  simp only [M'];rw [if_neg (by have:=a.bsz c k x;omega)];exact x,λi _=>by
  simp only [M']
  by_cases e:i=n
  .rw [if_pos e,e,r2];exact AR _
  .rw [if_neg e];exact AF _,λi _ q=>by
  simp only [M']at q⊢
  by_cases e:i=n
  .rw [if_pos e,e,r2]at q;omega
  .rw [if_neg e]⟩
 rw [<-Y];have g:Inv M' (h.set n (.tip cs.length)) w'/\Pres w.heap.size M h w M' (h.set n (.tip cs.length)) w':=by
  refine UpdS.done (S:=λj=>j=n) (tb:=w.heap.size) ?_ a;refine {
   get:=λj l=>by rw [Heap.get_set,if_neg l],loc:=λj l=>rfl,tip:=λj l=>by simp [M',show j≠n from l],cur:=λj l=>by simp [M',show j≠n from l],heap:=λk K _=>m.old k K,im:=λc o z=>by simp [M',z],bsz:=λc z=>by simp [M',z],size:=(by rw [m.size];omega),
   os:=m.os,tape:=m.tape,output:=m.output,own:= .inr rfl,wb:=?_,one:=λi i' e e' _ _=>e.trans e'.symm,ext:=X,nid:=a.nid,fresh:=?_,freshl:=λj l=>a.freshl j l,imtb:=?_,bsztb:=?_,cells:=?_,tips:=?_,maps:=?_,resv:=λi u e=>by subst u;simp [Heap.get_set]at e }
  .rintro i c rfl ew;simp [Wb,Heap.get_set,M']at ew;exact ew.symm
  .intro j l;have G:h.next<=j:=l;rw [Heap.get_set,if_neg JZ];exact a.fresh j G
  .intro R v e;simp only [M',if_true]at e;split at e
   .simp only [World.cell?,m.new,DD,BA,if_false];exact e
   .simp at e
  .intro k e;rw [m.size];omega
  .rintro i T rfl y;simp [Heap.get_set]at y
  .rintro i k rfl y;simp [Heap.get_set]at y;subst y;exact⟨by simp [M'],cs.length,rc,by simp [M'],⟨⟨V,fz,m.new⟩,λi u=>kP m.new hf i u,by simp [M']⟩,L,λR ho=>by simp [M'];omega⟩
  .rintro i es rfl y;simp [Heap.get_set]at y
 refine⟨M',g.1,g.2,?_⟩;have A:=z.mono X;refine .vslice ⟨w.heap.size,0,none⟩ (λi=>rc.getD i undef) Y r (.inr ⟨rfl,rc.size,by simp [M'],by simpa using D⟩) ?_ ?_ A.2 ?_ KB
 .intro i u;simp [M',u,show i<rc.size by omega]
 .intro i u;have:=A.1.2 i u (by simp;omega);simpa [show i<rc.size by omega]using this
 .intro i e;simp at e;subst e;exact⟨by show n<M.nid;rw [a.nid];exact O,AF _,by simp [M'],λ_=> .inr (by simp [M'])⟩
end
end Go.Pv
end
section
namespace Go.Pv
section
variable {M:Meta} {h:Heap} {w:World}
theorem Inv.row(a:Inv M h w){id:Nat}{cs:Y14}(j:h.get id= .cells cs): ∃b rc,M.loc id=some b/\Blk M w b rc/\cs.length<=rc.size/\eP M cs (rc.toList.take cs.length)/\At w b 0 (rc.toList.take cs.length):=by
 obtain⟨b,rc,h1,h2,h3,h4,r⟩:=a.cells id cs j;refine⟨b,rc,h1,h2,h3,h4,λi l=>?_⟩;obtain⟨m,fz,g⟩:=h2.at_;simp at l;simp [World.cell?,g,show i<rc.size by omega]
theorem A2.uncons{k v:IV}{j:List (IV×IV)}{ents:List MapEntry}(h:A2 M ((k,v)::j) ents): ∃e r,ents=e::r/\VR M k e.key/\VR M v e.val/\A2 M j r:=by
 obtain⟨h1,h2⟩:=h
 cases ents with
 |nil=>simp [cU]at h1
 |cons e r=>
  obtain⟨_,_,g,l,m⟩:=cU.uncons h1;obtain⟨_,_,i,u,y⟩:=cU.uncons h2;simp at g i;obtain⟨rfl,rfl⟩:=g;obtain⟨rfl,rfl⟩:=i;exact⟨e,r,rfl,l,u,m,y⟩
theorem A2.cons{k v:IV}{g:List (IV×IV)}{e:MapEntry}{r:List MapEntry}(hk:VR M k e.key)(i:VR M v e.val)(h:A2 M g r):A2 M ((k,v)::g) (e::r):=
 ⟨cU.cons hk h.1,cU.cons i h.2⟩
theorem A2.len{g:List (IV×IV)}{ents:List MapEntry}(h:A2 M g ents):g.length=ents.length:=by simpa using h.1.1
theorem mX{d:TypeDesc}{x y:IV}{r:Bool}{a b:Value}(h:dD d x y=some r)(i:VR M x a)(j:VR M y b):Instr.sameNow d a b=some r/\(r=true->x=y/\a=b/\∀n,Instr.sameBits n b a=true):=by
 unfold dD at h;split at h
 .simp at h;subst h;cases i;cases j;refine⟨rfl,λe=>?_⟩;simp at e;subst e;exact⟨rfl,rfl,λn=>by cases n<;>simp [Instr.sameBits]⟩
 .split at h
  .rename_i hk;simp at h;subst h;subst hk;cases i;cases j;refine⟨by simp [Instr.sameNow],λe=>?_⟩;simp at e;subst e;exact⟨rfl,rfl,λn=>by cases n<;>simp [Instr.sameBits]⟩
  .simp at h
 .simp at h;subst h
  cases i with|str g=>cases j with|str l=>
  refine⟨?_,λe=>?_⟩
  .simp only [Instr.sameNow];rw [beq_toListBytes,ByteArray.toList_eq,ByteArray.toList_eq]
  .have e':g.data.toList=l.data.toList:=by simpa using e
   have m:g=l:=by
    obtain⟨⟨z⟩⟩:=g;obtain⟨⟨A⟩⟩:=l;simp at e';subst e';rfl
   subst m;have u:(g==g)=true:=by rw [beq_toListBytes];simp
   exact⟨rfl,rfl,λn=>by cases n<;>simp [Instr.sameBits,u]⟩
 .simp at h
def wI(g j:TypeId)(k:Value)(i:Bool)(ents:Array MapEntry):Sem Value:=do
 Instr.checkKey ents.isEmpty 10000 g k
 match<-Instr.findKey g k ents.toList with
 |some (_,v)=>pure (if i then .tuple #[v,.bool true]else v)
 |none=>do
  let z<-zeroValue j
  pure (if i then .tuple #[z,.bool false]else z)
theorem zB{d:TypeDesc}{k:IV}(hk:VR M k X): ∀{g:List (IV×IV)}{ents:List MapEntry}{r:Option IV}(i:Nat),A2 M g ents->iG d k g=some r->
  match r with
  |some v=> ∃j rv,Instr.findNow d X ents i=some (some (j,rv))/\VR M v rv
  |none=>Instr.findNow d X ents i=some none
 | [],ents,r,i,hm,h=>by
  have:ents=[]:=by have:=hm.len;simpa using this.symm
  subst this;simp [iG]at h;subst h;rfl
 | (x,v)::g,ents,r,i,hm,h=>by
  obtain⟨e,q,rfl,m,y,h2⟩:=hm.uncons;unfold iG at h;split at h
  .rename_i l;simp at h;subst h;have:=(mX l hk m).1;exact⟨i,e.val,by simp [Instr.findNow,this],y⟩
  .rename_i l;have:=(mX l hk m).1;have u:=zB hk (i+1) h2 h;simpa [Instr.findNow,this]using u
  .simp at h
theorem uW{P:Program}{d:TypeDesc}{k:IV}{emp:Bool}(g:P.underlying T=some d)(hf:qX d k=true)(hk:VR M k X)(w:World)(n:Nat):(Instr.checkKey emp (n+1) T X).run P w= .ok () w:=by
 unfold qX at hf;split at hf
 .cases hk;simp [Instr.checkKey,run_underlying g]
 .cases hk;simp [Instr.checkKey,run_underlying g]
 .cases hk;simp [Instr.checkKey,run_underlying g]
 .simp at hf
section
variable {E:Env} {o:Oper} {ev:Operand->Option TV} {ρ:Operand->Value} {pb:Nat->Nat}
theorem d0A(a:Inv M h w)(hev: ∀x tv,ev x=some tv->TR M pb tv (ρ x)){tv:TV}(g:dR E o ev h=some tv):
  ∃x r,tv= .v x/\(execOp ρ o).run E.P w= .ok (.value r) w/\VR M x r:=by
 unfold dR at g
 cases hop:o.op with
 |load t ad=>
  simp only [hop]at g;split at g
  case h_2=>simp at g
  rename_i id A ha;split at g
  case h_2=>simp at g
  rename_i cs T;obtain⟨v,h1,h2⟩:=AD.1 g;subst h2;have u:VR M (.ptr id A) (ρ ad):=hev _ _ ha;generalize hρ:ρ ad=ra at u
  cases u with
  | @ptr _ _ b hl=>
   obtain⟨b',rc,O,l2,l3,l4,l5⟩:=a.row T;rw [hl]at O;simp at O;subst O;obtain⟨r,h3,h4⟩:=H5 (P:=E.P) l4 l5 h1;exact⟨_,r,rfl,by simp only [execOp,hop,hρ,Instr.loadAt,Instr.sureAddr];exact cB _ _ (by simpa using h3),h4⟩
 |convert s d x=>
  simp only [hop]at g;split at g
  case h_2=>simp at g
  rename_i e id A len hs hd hx;split at g
  case h_2=>simp at g
  rename_i cs he T;split at g
  case isFalse=>simp at g
  rename_i b5;obtain⟨b,h1,h2⟩:=AD.1 g;subst h2;have u:=bG hev hx;generalize hρ:ρ x=ra at u;obtain⟨b',rc,O,l2,l3,l4,l5⟩:=a.row T
  cases u with
  | @hslice _ _ _ _ cap b0 ad hl had hlen=>
   rw [hl]at O;simp at O;subst O;refine⟨_,.string ⟨b.toArray⟩,rfl,?_,c4W b⟩;simp only [execOp,hop,hρ];refine cB _ _ ?_;rw [run_convert_bytes_string w s d e _ _ _ hs he hd];have hc:=(l4.drop A).take len;have D:((rc.toList.take cs.length|>.drop A).take len).length=len:=by simp;omega
   have:=rZ (P:=E.P) w (a:=ad) (cap:=cap) hc.1 h1 ?_
   .rw [D]at this;exact this
   .rw [D]
    by_cases h0:len=0
    .subst h0;simp [loadCells,loadCellsFrom]
    .obtain⟨rfl,_⟩:=had.resolve_left JZ;have:=H3 (P:=E.P) w (b:=b0) (base:=A) (rc:=(rc.toList.take cs.length|>.drop A).take len) (λi hi=>by
      have b1:=hi;rw [D]at b1;have:=l5 (A+i) (by simp;omega);simpa using this)
     rw [D]at this;exact this
 |slice t x lo hi mx=>
  simp only [hop]at g;split at g
  case h_2=>simp at g
  rename_i n e id A hu hx;split at g
  case h_2=>simp at g
  rename_i cs sz T b7;split at g
  case isFalse=>simp at g
  rename_i b5;obtain⟨⟨l,k⟩,h1,h2⟩:=AD.1 g;subst h2;have u:VR M (.ptr id A) (ρ x):=hev _ _ hx;generalize hρ:ρ x=ra at u;obtain⟨b',rc,O,l2,l3,l4,l5⟩:=a.row T;obtain⟨i,b2,b3⟩:=dT b7
  cases u with
  | @ptr _ _ b0 hl=>
   rw [hl]at O;simp at O;subst O;obtain⟨c1,c2,c3⟩:=lN (P:=E.P) (isSlice:=false) w (AF n) (F3 hev lo) (F3 hev hi) h1;have a0:VR M (.hslice id A n (sz+1)) (.slice (some ⟨b0,A,none⟩) n n):= .hslice _ hl (.inr ⟨rfl,rc.size,l2.bsz,JZ⟩) (AF n);have a4:=B1 a0 c1 c2;refine⟨_,_,rfl,?_,a4⟩;simp only [execOp,hop,hρ];refine cB _ _ ?_;simp only [Instr.sliceAt,AT,run_underlying hu,AL,Instr.sureAddr,AZ,IX,c3,cG b2,b3,DC];split<;>rfl
 |lookup t x k ok=>
  simp only [hop]at g;split at g
  case h_2=>simp at g
  rename_i kt et m c0 hu hm hk;split at g
  case h_2=>simp at g
  rename_i d es hd G;split at g
  case isFalse=>simp at g
  rename_i b4;have V:=bG hev hm;have a8:=bG hev hk;have a5: ∃ents:Array MapEntry,A2 M es ents.toList/\(Instr.lookup t (ρ x) (ρ k) ok).run E.P w=(wI kt et (ρ k) ok ents).run E.P w:=by
   split at G
   .simp at G;subst G;generalize ρ x=rx at V
    cases V
    exact⟨#[],⟨cU.nil _,cU.nil _⟩,by simp [Instr.lookup,wI,run_underlying hu];rfl⟩
   .rename_i id;split at G
    case h_2=>simp at G
    rename_i es' T;simp at G;subst G;generalize ρ x=rx at V
    cases V with
    | @map _ b hl=>
     obtain⟨b',ents,clock,Z,g2,g3,_⟩:=a.maps id es' T;rw [hl]at Z;simp at Z;subst Z;refine⟨ents,g3,?_⟩;have a9:(getObj b).run E.P w= .ok (.map ents clock) w:=by simp [getObj,Sem.run,g2]
     simp [Instr.lookup,wI,run_underlying hu,a9];rfl
   .simp at G
  obtain⟨ents,b6,Y⟩:=a5;have a3:=λemp=>uW (M:=M) (emp:=emp) hd b4 a8 w 9999
  have X: ∀{q:Option IV}{a1:TV},iG d c0 es=some q->(match q with
    |some v=>some (TV.v (if ok then .tuple [v,.bool true]else v))
    |none=>(dA E.P et).map λz=>TV.v (if ok then .tuple [z,.bool false]else z))=some a1-> ∃v r,a1= .v v/\(execOp ρ o).run E.P w= .ok (.value r) w/\VR M v r:=by
   intro q a1 hf L;have a6:=zB a8 0 b6 hf
   cases q with
   |some v=>
    obtain⟨j,rv,f1,f2⟩:=a6;simp at L;subst L;refine⟨_,if ok then .tuple #[rv,.bool true]else rv,rfl,?_,?_⟩
    .simp only [execOp,hop];refine cB _ _ ?_;rw [Y];simp only [wI,AT,AL,a3,Instr.findKey,run_underlying hd,f1,AZ]
    .cases ok
     .simpa using f2
     .simpa using eH (cU.cons f2 (cU.cons (.bool true) (cU.nil M)))
   |none=>
    obtain⟨z,hz,b9⟩:=AD.1 L;subst b9;obtain⟨i,r,z1,z2,z3,z4⟩:=fH (M:=M) hz;refine⟨_,if ok then .tuple #[r,.bool false]else r,rfl,?_,?_⟩
    .simp only [execOp,hop];refine cB _ _ ?_;rw [Y];have a7:Instr.findNow d (ρ k) ents.toList 0=some none:=a6;simp only [wI,AT,AL,a3,Instr.findKey,run_underlying hd,a7,AZ,cJ w z1 z2]
    .cases ok
     .simpa using z3
     .simpa using eH (cU.cons z3 (cU.cons (.bool false) (cU.nil M)))
  split at g
  .rename_i v hf;exact X hf g
  .rename_i hf;exact X hf g
  .simp at g
 |call c=>
  obtain⟨R,a2,K⟩:=c;simp only [hop]at g
  cases R with
  |value x=>simp at g
  |invoke x n=>simp at g
  |builtin b=>
   cases b
   case len=>
    simp only at g;split at g
    case h_2=>simp at g
    rename_i t id ht hx;obtain⟨y,hy,b8⟩:=CJ.1 hx;have u:=bG hev b8;split at g
    case h_2=>simp at g
    rename_i kt et es hu T;simp at g;subst g;generalize hρ:ρ y=ra at u
    cases u with
    | @map _ b hl=>
     obtain⟨b',ents,clock,Z,g2,g3,_⟩:=a.maps id es T;rw [hl]at Z;simp at Z;subst Z;refine⟨_,goInt ents.size,rfl,?_,?_⟩
     .simp only [execOp,hop,resolve,invoke,AT,AZ,AL,builtin];have:(Builtin.len_ K o.type (a2.map ρ)).run E.P w= .ok (goInt ents.size) w:=by
       simp [Builtin.len_,ht,hy,hρ,run_underlying hu,getObj,Sem.run,g2]
      simp [this]
     .have:=g3.len;simp at this;rw [this];exact .int _ _
   all_goals simp at g
 |_=>simp [hop]at g
end
end
section
variable {M:Meta} {h:Heap} {w w':World}
theorem iV(n:Nat)(z:Y14):(fY n z).length=n*z.length:=by
 induction n with
 |zero=>simp [fY]
 |succ n ih=>simp only [fY,AI,ih,CS];omega
theorem Fk(z:Y14)(h0:0<z.length): ∀(n i:Nat),i<n*z.length->(fY n z)[i]?=z[i%z.length]?
 |0,i,hi=>JZ
 |n+1,i,hi=>by
  rw [CS]at hi;simp only [fY]
  by_cases hlt:i<z.length
  .rw [BM hlt,Nat.mod_eq_of_lt hlt]
  .rw [BC JZ,Fk z h0 n (i-z.length) JZ];rw [Nat.mod_eq_sub_mod (by omega:i>=z.length)]
theorem J1{z:Y14}(m:eP M z H.toList)(h0:0<z.length)(n:Nat):
  eP M (fY n z) ((Array.range (n*z.length)).map (H[· %H.size]!)).toList:=by
 have l:H.size=z.length:=by have:=m.len;simpa using this.symm
 refine⟨⟨by simp [iV],λi h1 h2=>?_⟩,λi h1=>?_⟩
 .rw [iV]at h1;have hm:=HZ i h0;have g:(fY n z)[i]?=z[i%z.length]?:=Fk z h0 n i h1;rw [AB (by rw [iV];exact h1),AB hm]at g;simp only [AC]at g;rw [g];have:=m.1.2 (i%z.length) hm (by simp [l];exact hm);simpa [l,getElem!_pos,hm]using this
 .have j:=h1;rw [iV]at j;have hm:=HZ i h0;have g:(fY n z)[i]?=z[i%z.length]?:=Fk z h0 n i j;rw [AB h1,AB hm]at g;simp only [AC]at g;rw [g];exact m.2 _ hm
theorem pE{t:TypeId}{z:IV}{i:TypeInfo}{P:Program}(j:dA P t=some z)(g:P.info? t=some i): ∃r,i.zero=some r/\eP M (cellsOf z) r.cells.toList:=by
 obtain⟨l,r,h1,h2,h3,h4⟩:=fH (M:=M) j;rw [g]at h1;simp at h1;subst h1;exact⟨r,h2,lR h3 h4⟩
theorem D0(f g:Nat->Value):(Array.range 0).map f=(Array.range 0).map g:=KB
theorem vX{P:Program}(w:World){t e:TypeId}{n sz:Nat}{z:IV}{ps:List (Nat×IV)}{g:Array (Nat×Value)}{cs:Y14}(Z:P.underlying t=some (.slice e))(O:iN P e=some (sz+1))
  (hz:dA P e=some z) (hn:n*(sz+1)<=16777216) (hzl:(cellsOf z).length=sz+1) (hp:PR M ps g.toList) (h1:qW (λi=>some (i*(sz+1),sz+1)) (fY n (cellsOf z)) ps=some cs):
  ∃A:Array Value,(Instr.buildSlice t n g).run P w= .ok (.slice (some ⟨w.heap.size,0,none⟩) n n) (w.alloc (.cells A e))/\eP M cs A.toList/\cs.length=n*(sz+1):=by
 obtain⟨i,u,L⟩:=dT O;obtain⟨V,R,T⟩:=pE (M:=M) hz u;have r:=J1 T JZ n;rw [hzl]at r;obtain⟨A,D,X⟩:=G4 hp r h1;have K:cs.length=n*(sz+1):=by
  have: ∀{j:Nat->Option (Nat×Nat)}{ps:List (Nat×IV)}{c m:Y14},qW j c ps=some m->m.length=c.length:=by
   intro j ps
   induction ps with
   |nil=>intro c m l;simp [qW]at l;rw [l]
   |cons p ps ih=>
    intro c m l;obtain⟨pi,pv⟩:=p;unfold qW at l;split at l
    .simp at l
    .split at l
     .rename_i Y;rw [ih l];simp [spl];omega
     .simp at l
  rw [this h1,iV,hzl]
 refine⟨A,?_,X,K⟩;have y:i.size=sz+1:=L;simp only [Instr.buildSlice,AT,run_underlying Z,AL,cG u,y];rw [if_neg JZ]
 by_cases hn0:n*(sz+1)=0
 .rw [hn0]at D;rw [if_pos hn0];have G:Instr.fill (λi=>some (i*(sz+1),sz+1)) ((Array.range (n*(sz+1))).map λx=>(#[]:Array Value)[x% (#[]:Array Value).size]!) g.toList=some A:=by
   rw [hn0,D0 _ (λx=>V.cells[x%V.cells.size]!)];exact D
  simp only [AT,AZ,AL];rw [G];simp only [Go.newRow,AT,run_newObj,AL,AZ];rfl
 .rw [if_neg hn0];simp only [AT,AZ,AL,cJ w u R];rw [D];simp only [Go.newRow,AT,run_newObj,AL,AZ];rfl
theorem sI(a:Inv M h w)(i:Nat){len sz cap:Nat}{cs:Y14}{rc:Array Value}{fz:Nat×Nat}(l:NewBlk w w' (.cells rc T fz))(hf:fz.2<=fz.1\/rc.size<=fz.1)(j:cs.length=len*sz)(g:len<=cap)
  (hcap:cap*sz<=rc.size) (hc:eP M cs (rc.toList.take cs.length)):
  ∃M',Inv M' (newRow h i len sz cs).2 w'/\Pres w.heap.size M h w M' (newRow h i len sz cs).2 w'/\VR M' (newRow h i len sz cs).1 (.slice (some ⟨w.heap.size,0,none⟩) len cap):=by
 unfold newRow
 split
 .exact c8Y a l hf j g hcap hc
 .obtain⟨M',h1,h2,h3,h4⟩:=W8 a l hf (by rw [j];exact CG (CE _ g) hcap) hc;exact⟨M',h1,h2,.hslice _ h3 (.inr ⟨rfl,rc.size,h4,JZ⟩) g⟩
theorem vY(w:World)(x:Obj):NewBlk w (w.drew.alloc x) x where
 new:=by show(w.heap.push x)[w.heap.size]?=_;simp
 old:=λb g=>by show(w.heap.push x)[b]?=_;rw [FS,if_neg JZ]
 size:=KB
 os:=rfl
 tape:=rfl
 output:=rfl
theorem Sy{P:Program}(a:Inv M h w){sz n:Nat}{x:IV}{xs:Y14}{r:Value}(V:VR M x r)(l:gO h sz x=some (n,xs)):
  xs.length=n*sz/\(∀w':World,(Builtin.lenOf r).run P w'= .ok n w')/\(∀i (L:i<xs.length),isCell xs[i]=true)/\
  ∀m,m<=n-> ∃news:List Value,eP M (xs.take (m*sz)) news/\news.length=m*sz/\(Builtin.firstCells sz m r).run P w= .ok news.toArray w/\(Builtin.firstCells sz m r).run P w.drew= .ok news.toArray w.drew:=by
 unfold gO at l;split at l
 .simp at l;obtain⟨rfl,rfl⟩:=l
  cases V
  refine⟨KB,λ_=>rfl,λi L=>by simp at L,λm hm=>?_⟩;have:m=0:=JZ;subst this;exact⟨[],by simpa using eP.nil M,KB,run_firstCells_none w _ _ _ _,run_firstCells_none w.drew _ _ _ _⟩
 .split at l
  case isFalse=>simp at l
  rename_i T;subst T;simp at l;obtain⟨rfl,rfl⟩:=l
  cases V with
  |vnil=>
   refine⟨KB,λ_=>rfl,λi L=>by simp at L,λm hm=>?_⟩;have:m=0:=JZ;subst this;exact⟨[],by simpa using eP.nil M,KB,run_firstCells_none w _ _ _ _,run_firstCells_none w.drew _ _ _ _⟩
  | @vslice _ _ _ _ cap _ ad rv hn hlen ha him hv hc ht hf=>
   refine⟨hn,λ_=>rfl,hc,λm hm=>?_⟩;rename_i id e len z cs;have a1:m*z<=len*z:=CE _ hm;have D:eP M cs ((List.range cs.length).map rv):=⟨⟨KB,λi p q=>by simpa using hv i p⟩,hc⟩;have g: ∀j v,(((List.range cs.length).map rv).take (m*z))[j]?=some v->w.cell? (ad.add j)=some v:=by
    intro j v y;rw [DI]at y;split at y
    .rename_i X;obtain⟨h1,h2⟩:=BT.1 y;simp at h1 h2;have K:cap≠0:=by
      intro e;have:len=0:=JZ;subst this;simp at hn;omega
     obtain⟨R,_⟩:=ha.resolve_left K;obtain⟨ab,ao,a2⟩:=ad;simp only at R;subst R;rw [dB,<-h2];exact a.im _ _ _ (him j h1)
    .simp at y
   have O:(((List.range cs.length).map rv).take (m*z)).length=m*z:=by simp;omega
   exact⟨_,D.take _,O,run_firstCells_some w z m ad len cap _ O g,run_firstCells_some w.drew z m ad len cap _ O (by simpa using g)⟩
 .split at l
  case isFalse=>simp at l
  rename_i T;subst T;split at l
  case h_2=>simp at l
  rename_i cs hg;split at l
  case isFalse=>simp at l
  rename_i a3;simp at l;obtain⟨rfl,rfl⟩:=l;rename_i id u len z _;obtain⟨b',rc,l1,l2,l3,l4,l5⟩:=a.row hg
  cases V with
  | @hslice _ _ _ _ cap b ad O had hlen=>
   rw [O]at l1;simp at l1;subst l1;have a0:((cs.drop u).take (len*z)).length=len*z:=by simp;omega
   refine⟨a0,λ_=>rfl,((l4.drop u).take _).2,λm hm=>?_⟩;have a1:m*z<=len*z:=CE _ hm;have g: ∀j v,((((rc.toList.take cs.length).drop u).take (len*z)).take (m*z))[j]?=some v->w.cell? (ad.add j)=some v:=by
    intro j v y;rw [DI]at y;split at y
    .rename_i X;obtain⟨Y,Z⟩:=pG _ _ _ _ _ y;have K:cap≠0:=by
      intro e;have:len=0:=JZ;subst this;simp at Y
     obtain⟨rfl,_⟩:=had.resolve_left K;rw [dB];obtain⟨q1,q2⟩:=BT.1 Z;have:=l5 (u+j) q1;rw [q2]at this;simpa using this
    .simp at y
   have G:((((rc.toList.take cs.length).drop u).take (len*z)).take (m*z)).length=m*z:=by simp;omega
   exact⟨_,((l4.drop u).take _).take _,G,run_firstCells_some w z m ad len cap _ G g,run_firstCells_some w.drew z m ad len cap _ G (by simpa using g)⟩
 .split at l
  case isFalse=>simp at l
  rename_i T;subst T;simp at l;obtain⟨rfl,rfl⟩:=l
  cases V with
  |str s=>
   refine⟨KB,λ_=>by simp [Builtin.lenOf],λi L=>by simp [isCell],λm hm=>?_⟩;simp only [EV]at hm;have D:eP M (s.data.toList.map λb=>IV.int .u8 b.toNat) (s.data.toList.map λb=>Value.int .u8 b.toNat):=
    ⟨⟨KB,λi p q=>by simpa using VR.int _ _⟩,λi p=>by simp [isCell]⟩
   have A: ∀w':World,(Builtin.firstCells 1 m (.string s)).run P w'= .ok ((s.data.toList.map λb=>Value.int .u8 b.toNat).take (m*1)).toArray w':=by
    intro w';simp only [Builtin.firstCells,AZ]
    congr 1
    apply EL;simp [ByteArray.data_extract,FY]
   exact⟨_,D.take _,by have e:s.size=s.data.size:=rfl;simp;omega,A w,A w.drew⟩
 .simp at l
theorem a9G{P:Program}(a:Inv M h w){sz n:Nat}{x:IV}{xs:Y14}{r:Value}{j:TypeDesc}(l:P.underlying T=some j)(hk:oS j=true)(u:VR M x r)(m:gO h sz x=some (n,xs)):
  ∃g:List Value,eP M xs g/\Src P sz T r n g w:=by
 obtain⟨h1,h2,h3,h4⟩:=Sy (P:=P) a u m;obtain⟨g,i,y,z,A⟩:=h4 n (AF _);rw [AJ JZ]at i;refine⟨g,i,⟨?_,h2,z,A,y,i.one⟩⟩;unfold oS at hk;split at hk
 .exact .inl ⟨_,l⟩
 .exact .inr l
 .simp at hk
end
end Go.Pv
end
section
namespace Go.Pv
open Go
def pJ(h:Heap)(n g len sz:Nat)(cs:Y14):IV×Heap:=(D6 n g len sz cs,h.set n (uU g len sz cs))
theorem Ac{M:Meta}{h:Heap}{w w':World}(a:Inv M h w){n:Nat}(j:h.get n= .free)(i:Nat){len sz cap:Nat}{cs:Y14}(h0:i=0->0<cs.length){rc:Array Value}{fz:Nat×Nat}(m:NewBlk w w' (.cells rc T fz))(hf:fz.2<=fz.1\/rc.size<=fz.1)(l:cs.length=len*sz)(g:len<=cap)
  (hcap:cap*sz<=rc.size) (hc:eP M cs (rc.toList.take cs.length)):
  ∃M',Inv M' (pJ h n i len sz cs).2 w'/\Pres w.heap.size M h w M' (pJ h n i len sz cs).2 w'/\VR M' (pJ h n i len sz cs).1 (.slice (some ⟨w.heap.size,0,none⟩) len cap):=by
 unfold pJ D6 uU
 by_cases hw:i=0
 .simp only [if_pos hw];exact c8L a j m hf l (h0 hw) g hcap hc
 .simp only [if_neg hw];obtain⟨M',h1,h2,h3,h4⟩:=Np a j m hf (by rw [l];exact CG (CE _ g) hcap) hc;exact⟨M',h1,h2,.hslice _ h3 (.inr ⟨rfl,rc.size,h4,JZ⟩) g⟩
theorem Inv.free1{M:Meta}{h:Heap}{w:World}(a:Inv M h w): ∃M',Inv M' (h.push .free) w/\Pres w.heap.size M h w M' (h.push .free) w:=by
 let M':Meta:= {M with nid:=M.nid+1,tip:=λi=>if i=h.next then 0 else M.tip i }
 have z:Ext M M':=⟨by simp [M'],λ_ _ x=>x,λ_ _ _ x=>x,λ_ _ x=>x,λi r=>by
  simp only [M'];rw [if_neg (by have:=a.nid;omega)];exact AF _,λi r _=>rfl⟩
 have m: ∀j,(h.push .free).get j=if j=h.next then .free else h.get j:=λj=>Heap.get_push h j .free
 have g: ∀{b rc},Blk M w b rc->Blk M' w b rc:=λl=>⟨l.at_,l.free,l.bsz⟩
 have y: ∀j,Wb M' (h.push .free) j=Wb M h j:=λj=>by
  by_cases e:j=h.next
  .subst e;simp [Wb,m,a.fresh h.next (AF _)]
  .simp only [Wb,m,if_neg e,M']
 refine⟨M',?_,⟨z,AF _,rfl,rfl,rfl,λb L K=>⟨rfl,?_,λ_=>rfl⟩⟩⟩
 .exact {
   nid:=by show M.nid+1=_;rw [a.nid,Heap.next_push]
   fresh:=λid u=>by
    rw [Heap.next_push]at u;rw [m,if_neg JZ];exact a.fresh id JZ
   freshl:=λid u=>by
    rw [Heap.next_push]at u;exact a.freshl id JZ
   cells:=λid cs e=>by
    rw [m]at e;split at e
    .simp at e
    .obtain⟨b,rc,h1,h2,h3,h4,G⟩:=a.cells id cs e;exact⟨b,rc,h1,g h2,h3,h4.mono z,G⟩
   tips:=λid k e=>by
    rw [m]at e;split at e
    .simp at e
    .rename_i r;obtain⟨h0,b,e',rc,h1,h2,h3⟩:=a.tips id k e;exact⟨by simp only [M'];rw [if_neg r];exact h0,b,e',rc,h1,g h2,h3⟩
   maps:=λid D e=>by
    rw [m]at e;split at e
    .simp at e
    .obtain⟨b,ents,cl,h1,h2,h3⟩:=a.maps id D e;exact⟨b,ents,cl,h1,h2,h3.1.mono z,h3.2⟩
   im:=a.im
   bsz:=a.bsz
   one:=λid A b e e'=>by
    rw [y]at e e';exact a.one id A b e e'
   resv:=λid e=>by
    rw [m]at e;split at e
    .rename_i r;subst r;exact⟨a.freshl _ (AF _),by simp [M']⟩
    .rename_i r;simp only [M'];rw [if_neg r];exact a.resv id e }
 .rintro⟨id,e⟩;rw [y]at e;exact K ⟨id,e⟩
theorem Inv.reserve{M:Meta}{h:Heap}{w:World}(a:Inv M h w): ∀k,∃M',Inv M' (h.reserve k) w/\Pres w.heap.size M h w M' (h.reserve k) w
 |0=>⟨M,a,Pres.refl _ _ _ _⟩
 |k+1=>by
  obtain⟨r,i,j⟩:=a.reserve k;obtain⟨g,l,m⟩:=i.free1;exact⟨g,l,j.trans m⟩
end Go.Pv
end
end
