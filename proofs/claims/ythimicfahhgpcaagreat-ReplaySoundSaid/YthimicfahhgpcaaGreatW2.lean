/-
  Texts of this proof, one after the other.
  Conditions: none.
-/
import Derived.Test.YthimicfahhgpcaaGreatW1
set_option linter.unusedVariables false
set_option linter.unusedSimpArgs false
set_option maxRecDepth 100000
set_option maxHeartbeats 4000000
noncomputable section
variable{i j k m n b q:Nat}{x y z u w:Int}{h g:Go.Pv.Heap}{d l:List Go.Pv.IV}{K L:Y12}{p s t:Go.Pv.IV}{D:Go.Pv.Meta}{V W:List Go.Value}{U:Go.TypeId}{o:Bool}{X Y:Go.Value}{r e:Y11}{O:Go.Oper}{N:Y10}{H:Array Go.Value}
section
namespace Go.Pv
namespace PT
variable {α:Type}
theorem a6F(n:Nat): ∀(t:PT α)(k j:Nat)(x:Option α),k<n->(X0 n t k x).get j=if j=k then x else t.get j:=by
 induction n with
 |zero=>intro t k j x h;omega
 |succ n ih=>
  intro t k j x h;have m: ∀j,j%2=1->t.get j=t.left.get ((j-1)/2):=by
   intro j g
   cases t with
   |nil=>rfl
   |node l v r=>simp [get,left,show j≠0 by omega,g]
  have p: ∀j,j≠0->j%2=0->t.get j=t.right.get ((j-2)/2):=by
   intro j h0 g
   cases t with
   |nil=>rfl
   |node l v r=>simp [get,right,h0,g]
  have q:t.get 0=t.val:=by
   cases t with
   |nil=>rfl
   |node l v r=>simp [get,val]
  unfold X0
  by_cases hk:k=0
  ·subst hk;simp only [if_true,get]
   by_cases g:j=0
   ·simp [g]
   ·by_cases hj2:j%2=1
    ·simp [g,hj2,m j hj2]
    ·simp [g,hj2,p j g JF]
  ·rw [if_neg hk]
   by_cases hk2:k%2=1
   ·rw [if_pos hk2];simp only [get]
    by_cases g:j=0
    ·subst g;simp [q,show¬ (0=k) by omega]
    ·rw [if_neg g]
     by_cases hj2:j%2=1
     ·rw [if_pos hj2,ih _ _ _ _ JF,m j hj2]
      by_cases e:j=k
      ·simp [e]
      ·rw [if_neg JF,if_neg e]
     ·rw [if_neg hj2,if_neg JF,p j g JF]
   ·rw [if_neg hk2];simp only [get]
    by_cases g:j=0
    ·subst g;simp [q,show¬ (0=k) by omega]
    ·rw [if_neg g]
     by_cases hj2:j%2=1
     ·rw [if_pos hj2,if_neg JF,m j hj2]
     ·rw [if_neg hj2,ih _ _ _ _ JF,p j g JF]
      by_cases e:j=k
      ·simp [e]
      ·rw [if_neg JF,if_neg e]
theorem get_set(t:PT α)(k j:Nat)(x:Option α):(t.set k x).get j=if j=k then x else t.get j:=a6F _ _ _ _ _ JF
theorem get_filt(f:α->Bool): ∀(t:PT α)(j:Nat),(t.filt f).get j=match t.get j with|some x=>if f x then some x else none|none=>none
 |nil,j=>rfl
 |node l v r,j=>by
  unfold filt get
  by_cases hj:j=0
  ·simp only [hj,if_true]<;>cases v<;>rfl
  ·by_cases hj2:j%2=1
   ·simp [hj,hj2,get_filt f l]
   ·simp [hj,hj2,get_filt f r]
theorem C0: ∀(n m:Nat)(t:PT α)(j k:Nat)(x y:Option α),j≠k->X0 n (X0 m t j x) k y=X0 m (X0 n t k y) j x
 |0,m,t,j,k,x,y,_=>by cases m<;>rfl
 |n+1,0,t,j,k,x,y,_=>rfl
 |n+1,m+1,t,j,k,x,y,hjk=>by
  simp only [X0]
  by_cases hj:j=0
  ·have g:k≠0:=fun e=>hjk JF
   by_cases hk2:k%2=1<;>simp [hj,g,hk2,left,right,val]
  ·by_cases g:k=0
   ·by_cases hj2:j%2=1<;>simp [hj,g,hj2,left,right,val]
   ·by_cases hj2:j%2=1<;>by_cases hk2:k%2=1<;>simp [hj,g,hj2,hk2,left,right,val]
    ·exact C0 n m _ _ _ _ _ JF
    ·exact C0 n m _ _ _ _ _ JF
theorem set_comm(t:PT α){j k:Nat}(x y:Option α)(h:j≠k):(t.set j x).set k y=(t.set k y).set j x:=C0 _ _ _ _ _ _ _ h
end PT
theorem Heap.set_comm(h:Heap){j k:Nat}(x y:IObj)(e:j≠k):(h.set j x).set k y=(h.set k y).set j x:=by
 simp only [Heap.set,PT.set_comm _ _ _ e]
theorem Heap.get_set(h:Heap)(id j:Nat)(x:IObj):(h.set id x).get j=if j=id then x else h.get j:=by
 simp only [Heap.get,Heap.set,PT.get_set];split<;>rfl
theorem Heap.get_push(h:Heap)(j:Nat)(x:IObj):(h.push x).get j=if j=h.next then x else h.get j:=by
 simp only [Heap.get,Heap.push,PT.get_set];split<;>rfl
theorem Heap.next_set(h:Heap)(id:Nat)(x:IObj):(h.set id x).next=h.next:=rfl
theorem Heap.next_push(h:Heap)(x:IObj):(h.push x).next=h.next+1:=rfl
structure Blk(M:Meta)(w:World)(b:Nat)(rc:Array Value):Prop where
 at_: ∃el fz,w.heap[b]?=some (.cells rc el fz)
 free: ∀i,i<rc.size->w.frozen? ⟨b,i,none⟩=false
 bsz:M.bsz b=some rc.size
def Na(ents:Array MapEntry)(clock:Nat):Prop:=clock=ents.size/\∀(j:Nat)(e:MapEntry),ents[j]?=some e->e.born=j
theorem Na.nil:Na #[] 0:=⟨rfl,fun j e h=>by simp at h⟩
theorem Na.push{ents:Array MapEntry}{clock:Nat}(b:Na ents clock)(k v:Value):Na (ents.push {key:=k,val:=v,born:=clock }) (clock+1):=by
 obtain⟨h1,h2⟩:=b;refine⟨by simp [h1],fun j e h=>?_⟩;rw [FO]at h;split at h
 ·rename_i g;simp only [AB]at h;rw [<-h,g];exact h1
 ·exact h2 j e h
theorem Na.modify{ents:Array MapEntry}{clock:Nat}(b:Na ents clock)(i:Nat)(g:MapEntry->MapEntry)(l: ∀e,(g e).born=e.born):Na (ents.modify i g) clock:=by
 obtain⟨h1,h2⟩:=b;refine⟨by simp [h1],fun j e h=>?_⟩;rw [DL]at h;split at h
 ·obtain⟨x,m,p⟩:=AE.1 h;rw [<-p,l];exact h2 j x m
 ·exact h2 j e h
def uW(M:Meta)(g:List (IV×IV))(ents:List MapEntry):Prop:=cO M (g.map (·.1)) (ents.map (·.key))/\cO M (g.map (·.2)) (ents.map (·.val))
def Wb(M:Meta)(h:Heap)(id:Nat):Y10:=
 match h.get id with
 | .cells _=>M.loc id
 | .map _=>M.loc id
 | .tip _=>some (M.cur id).1
 | .dead=>none
 | .free=>none
def Wr(M:Meta)(h:Heap)(b:Nat):Prop:= ∃id,Wb M h id=some b
structure Inv(M:Meta)(h:Heap)(w:World):Prop where
 nid:M.nid=h.next
 fresh: ∀id,h.next<=id->h.get id= .dead
 freshl: ∀id,h.next<=id->M.loc id=none
 cells: ∀id cs,h.get id= .cells cs-> ∃b rc,M.loc id=some b/\Blk M w b rc/\cs.length<=rc.size/\eG M cs (rc.toList.take cs.length)/\∀o,M.im b o=none
 tips: ∀id n,h.get id= .tip n->M.tip id=n/\∃b e rc,M.cur id=(b,e)/\Blk M w b rc/\e<=rc.size/\∀o,e<=o->M.im b o=none
 maps: ∀id es,h.get id= .map es-> ∃b ents clock,M.loc id=some b/\w.heap[b]?=some (.map ents clock)/\uW M es ents.toList/\Na ents clock
 im: ∀b o v,M.im b o=some v->w.cell? ⟨b,o,none⟩=some v
 bsz: ∀b n,M.bsz b=some n->b<w.heap.size
 one: ∀id id' b,Wb M h id=some b->Wb M h id'=some b->id=id'
 resv: ∀id,h.get id= .free->M.loc id=none/\M.tip id=0
structure Pres(B:Nat)(M:Meta)(h:Heap)(w:World)(M':Meta)(h':Heap)(w':World):Prop where
 ext:Ext M M'
 size:w.heap.size<=w'.heap.size
 os:w'.os=w.os
 tape:w'.tape=w.tape
 output:w'.output=w.output
 keep: ∀b,b<B-> ¬Wr M h b->w'.heap[b]?=w.heap[b]?/\¬Wr M' h' b/\∀o,M'.im b o=M.im b o
theorem Pres.refl(B:Nat)(M:Meta)(h:Heap)(w:World):Pres B M h w M h w:=⟨Ext.refl M,AG _,rfl,rfl,rfl,fun _ _ g=>⟨rfl,g,fun _=>rfl⟩⟩
theorem Pres.trans{B:Nat}{g j l:Meta}{h1 h2 h3:Heap}{p q r:World}(a:Pres B g h1 p j h2 q)(b:Pres B j h2 q l h3 r):Pres B g h1 p l h3 r where
 ext:=a.ext.trans b.ext
 size:=CW a.size b.size
 os:=b.os.trans a.os
 tape:=b.tape.trans a.tape
 output:=b.output.trans a.output
 keep:=fun k m y=>by
  obtain⟨z,A,D⟩:=a.keep k m y;obtain⟨G,K,L⟩:=b.keep k m A;exact⟨G.trans z,K,fun o=>(L o).trans (D o)⟩
theorem Pres.mono{B g:Nat}{M M':Meta}{h h':Heap}{w w':World}(a:Pres B M h w M' h' w')(hB:g<=B):Pres g M h w M' h' w':=
 {a with keep:=fun k j l=>a.keep k (BS j hB) l }
theorem Inv.drew{M:Meta}{h:Heap}{w:World}(a:Inv M h w):Inv M h w.drew where
 nid:=a.nid
 fresh:=a.fresh
 freshl:=a.freshl
 cells:=fun id cs e=>by
  obtain⟨b,rc,h1,h2,h3⟩:=a.cells id cs e;exact⟨b,rc,h1,⟨h2.at_,h2.free,h2.bsz⟩,h3⟩
 tips:=fun id n e=>by
  obtain⟨h0,b,e',rc,h1,h2,h3⟩:=a.tips id n e;exact⟨h0,b,e',rc,h1,⟨h2.at_,h2.free,h2.bsz⟩,h3⟩
 maps:=a.maps
 im:=a.im
 bsz:=a.bsz
 one:=a.one
 resv:=a.resv
theorem uW.mono{M M':Meta}(j:Ext M M'){g:List (IV×IV)}{ents:List MapEntry}(h:uW M g ents):uW M' g ents:=⟨h.1.mono j,h.2.mono j⟩
theorem mD{w w':World}{b g i:Nat}(h:w'.heap[g]?=w.heap[b]?):w'.frozen? ⟨g,i,none⟩=w.frozen? ⟨b,i,none⟩:=by
 simp only [World.frozen?,h]
theorem oU{w w':World}{b i:Nat}(h:w'.heap[b]?=w.heap[b]?):w'.cell? ⟨b,i,none⟩=w.cell? ⟨b,i,none⟩:=by
 simp only [World.cell?,h]
theorem cP{w:World}{b:Nat}{o:Obj}(h:w.heap[b]?=some o):b<w.heap.size:=by
 obtain⟨g,_⟩:=HG.1 h;exact g
theorem Blk.lt{M:Meta}{w:World}{b:Nat}{rc:Array Value}(h:Blk M w b rc):b<w.heap.size:=by
 obtain⟨g,fz,h⟩:=h.at_;exact cP h
theorem Blk.keep{M M':Meta}{w w':World}{b:Nat}{rc:Array Value}(h:Blk M w b rc)(g:w'.heap[b]?=w.heap[b]?)(m:M'.bsz b=M.bsz b):Blk M' w' b rc:=by
 obtain⟨j,fz,h1⟩:=h.at_;exact⟨⟨j,fz,g.trans h1⟩,fun i l=>(mD g).trans (h.free i l),m.trans h.bsz⟩
theorem Inv.wb_lt{M:Meta}{h:Heap}{w:World}(a:Inv M h w){id b:Nat}(e:Wb M h id=some b):b<w.heap.size:=by
 unfold Wb at e
 cases hg:h.get id with
 |cells cs=>
  obtain⟨g,rc,h1,h2,_⟩:=a.cells id cs hg;simp [hg]at e;rw [h1]at e;simp at e;subst e;exact h2.lt
 |free=>simp [hg]at e
 |map es=>
  obtain⟨g,ents,c,h1,h2,_⟩:=a.maps id es hg;simp [hg]at e;rw [h1]at e;simp at e;subst e;exact cP h2
 |tip n=>
  obtain⟨_,g,e',rc,h1,h2,_⟩:=a.tips id n hg;simp [hg]at e;rw [h1]at e;simp at e;subst e;exact h2.lt
 |dead=>simp [hg]at e
structure NewBlk(w w':World)(o:Obj):Prop where
 new:w'.heap[w.heap.size]?=some o
 old: ∀b,b<w.heap.size->w'.heap[b]?=w.heap[b]?
 size:w'.heap.size=w.heap.size+1
 os:w'.os=w.os
 tape:w'.tape=w.tape
 output:w'.output=w.output
theorem NewBlk.alloc(w:World)(o:Obj):NewBlk w (w.alloc o) o where
 new:=by show(w.heap.push o)[w.heap.size]?=_;simp
 old:=fun b g=>by show(w.heap.push o)[b]?=_;rw [FO,if_neg JF]
 size:=JH
 os:=rfl
 tape:=rfl
 output:=rfl
structure Fresh1(M M':Meta)(h:Heap)(w:World):Prop where
 loc: ∀i,i≠h.next->M'.loc i=M.loc i
 tip: ∀i,i≠h.next->M'.tip i=M.tip i
 cur: ∀i,i≠h.next->M'.cur i=M.cur i
 im: ∀b o,b≠w.heap.size->M'.im b o=M.im b o
 bsz: ∀b,b≠w.heap.size->M'.bsz b=M.bsz b
 nid:M'.nid=M.nid+1
theorem Fresh1.wb{M M':Meta}{h:Heap}{w:World}{x:IObj}(f:Fresh1 M M' h w){id:Nat}(g:id≠h.next):Wb M' (h.push x) id=Wb M h id:=by
 have j:(h.push x).get id=h.get id:=by rw [Heap.get_push,if_neg g]
 simp only [Wb,j,f.loc id g,f.cur id g]
section
variable {M:Meta} {h:Heap} {w w':World} (a:Inv M h w)
include a
theorem Inv.im_lt{b o:Nat}{v:Value}(e:M.im b o=some v):b<w.heap.size:=by
 have:=a.im b o v e;unfold World.cell? at this;split at this
 ·rename_i c _ _ g;exact cP g
 ·simp at this
theorem Fresh1.ext{M':Meta}(f:Fresh1 M M' h w):Ext M M' where
 nid:=by have:=f.nid;omega
 loc:=fun id b e=>by
  by_cases g:id=h.next
  ·have:=a.freshl id JF;rw [this]at e;simp at e
  ·rw [f.loc id g];exact e
 im:=fun b o v e=>by rw [f.im b o (by have:=a.im_lt e;omega)];exact e
 bsz:=fun b n e=>by rw [f.bsz b (by have:=a.bsz b n e;omega)];exact e
 tip:=fun i g=>by rw [f.tip i (by have:=a.nid;omega)];exact AG _
 cur:=fun i g _=>by rw [f.cur i (by have:=a.nid;omega)]
theorem Fresh1.inv{M':Meta}{x:IObj}{o:Obj}(f:Fresh1 M M' h w)(l:NewBlk w w' o)
  (hlt: ∀i,h.next<i->M'.loc i=none) (hwb:Wb M' (h.push x) h.next=some w.heap.size)
  (him: ∀g v,M'.im w.heap.size g=some v->w'.cell? ⟨w.heap.size,g,none⟩=some v)
  (hc: ∀cs,x= .cells cs-> ∃rc,M'.loc h.next=some w.heap.size/\Blk M' w' w.heap.size rc/\cs.length<=rc.size/\eG M' cs (rc.toList.take cs.length)/\∀g,M'.im w.heap.size g=none)
  (ht: ∀n,x= .tip n->M'.tip h.next=n/\∃e rc,M'.cur h.next=(w.heap.size,e)/\Blk M' w' w.heap.size rc/\e<=rc.size/\∀g,e<=g->M'.im w.heap.size g=none)
  (hm: ∀q,x= .map q-> ∃ents clock,M'.loc h.next=some w.heap.size/\w'.heap[w.heap.size]?=some (.map ents clock)/\uW M' q ents.toList/\Na ents clock) (hx:x≠ .free:=by simp):
  Inv M' (h.push x) w'/\Pres w.heap.size M h w M' (h.push x) w':=by
 have r:=f.ext a;refine⟨?_,?_⟩
 ·refine⟨?_,?_,?_,?_,?_,?_,?_,?_,?_,?_⟩
  ·rw [f.nid,a.nid,Heap.next_push]
  ·intro id m;rw [Heap.next_push]at m;rw [Heap.get_push,if_neg JF];exact a.fresh id JF
  ·intro id m;rw [Heap.next_push]at m;exact hlt id JF
  ·intro id cs e
   by_cases hi:id=h.next
   ·subst hi;rw [Heap.get_push,if_pos rfl]at e;obtain⟨rc,h1,h2⟩:=hc cs e;exact⟨_,rc,h1,h2⟩
   ·rw [Heap.get_push,if_neg hi]at e;obtain⟨b,rc,h1,h2,h3,h4,y⟩:=a.cells id cs e;have j:=h2.lt;exact⟨b,rc,(f.loc id hi).trans h1,h2.keep (l.old b j) (f.bsz b JF),h3,h4.mono r,fun g=>(f.im b g JF).trans (y g)⟩
  ·intro id n e
   by_cases hi:id=h.next
   ·subst hi;rw [Heap.get_push,if_pos rfl]at e;obtain⟨h0,e',rc,h1,h2⟩:=ht n e;exact⟨h0,_,e',rc,h1,h2⟩
   ·rw [Heap.get_push,if_neg hi]at e;obtain⟨h0,b,e',rc,h1,h2,h3,h4⟩:=a.tips id n e;have j:=h2.lt;exact⟨(f.tip id hi).trans h0,b,e',rc,(f.cur id hi).trans h1,h2.keep (l.old b j) (f.bsz b JF),h3,fun g A=>(f.im b g JF).trans (h4 g A)⟩
  ·intro id q e
   by_cases hi:id=h.next
   ·subst hi;rw [Heap.get_push,if_pos rfl]at e;obtain⟨ents,c,h1,h2⟩:=hm q e;exact⟨_,ents,c,h1,h2⟩
   ·rw [Heap.get_push,if_neg hi]at e;obtain⟨b,ents,c,h1,h2,h3⟩:=a.maps id q e;exact⟨b,ents,c,(f.loc id hi).trans h1,(l.old b (cP h2)).trans h2,h3.1.mono r,h3.2⟩
  ·intro b g v e
   by_cases j:b=w.heap.size
   ·subst j;exact him g v e
   ·rw [f.im b g j]at e;rw [oU (l.old b (a.im_lt e))];exact a.im b g v e
  ·intro b n e;rw [l.size]
   by_cases j:b=w.heap.size
   ·omega
   ·rw [f.bsz b j]at e;have:=a.bsz b n e;omega
  ·intro id p b e e'
   by_cases hi:id=h.next
   ·by_cases hi':p=h.next
    ·omega
    ·rw [f.wb hi']at e';subst hi;rw [hwb]at e;simp at e;have:=a.wb_lt e';omega
   ·rw [f.wb hi]at e
    by_cases hi':p=h.next
    ·subst hi';rw [hwb]at e';simp at e';have:=a.wb_lt e;omega
    ·rw [f.wb hi']at e';exact a.one id p b e e'
  ·intro id e
   by_cases hi:id=h.next
   ·subst hi;rw [Heap.get_push,if_pos rfl]at e;exact absurd e hx
   ·rw [Heap.get_push,if_neg hi]at e;rw [f.loc id hi,f.tip id hi];exact a.resv id e
 ·refine⟨r,by rw [l.size];omega,l.os,l.tape,l.output,?_⟩;intro b j z;refine⟨l.old b j,?_,fun g=>f.im b g JF⟩;rintro⟨id,e⟩
  by_cases hi:id=h.next
  ·subst hi;rw [hwb]at e;simp at e;omega
  ·rw [f.wb hi]at e;exact z ⟨id,e⟩
end
end Go.Pv
end
section
namespace Go.Pv
structure UpdS(S:Nat->Prop)(tb:Nat)(M:Meta)(h:Heap)(w:World)(M':Meta)(h':Heap)(w':World):Prop where
 get: ∀j,¬S j->h'.get j=h.get j
 loc: ∀j,¬S j->M'.loc j=M.loc j
 tip: ∀j,¬S j->M'.tip j=M.tip j
 cur: ∀j,¬S j->M'.cur j=M.cur j
 heap: ∀b,b<w.heap.size->b≠tb->w'.heap[b]?=w.heap[b]?
 im: ∀b o,b≠tb->M'.im b o=M.im b o
 bsz: ∀b,b≠tb->M'.bsz b=M.bsz b
 size:w.heap.size<=w'.heap.size
 os:w'.os=w.os
 tape:w'.tape=w.tape
 output:w'.output=w.output
 own:(∃i,S i/\Wb M h i=some tb) \/tb=w.heap.size
 wb: ∀i b,S i->Wb M' h' i=some b->b=tb
 one: ∀i i',S i->S i'->Wb M' h' i=some tb->Wb M' h' i'=some tb->i=i'
 ext:Ext M M'
 nid:M'.nid=h'.next
 fresh: ∀id,h'.next<=id->h'.get id= .dead
 freshl: ∀id,h'.next<=id->M'.loc id=none
 imtb: ∀off v,M'.im tb off=some v->w'.cell? ⟨tb,off,none⟩=some v
 bsztb: ∀n,M'.bsz tb=some n->tb<w'.heap.size
 cells: ∀i cs,S i->h'.get i= .cells cs-> ∃rc,M'.loc i=some tb/\Blk M' w' tb rc/\cs.length<=rc.size/\eG M' cs (rc.toList.take cs.length)/\∀off,M'.im tb off=none
 tips: ∀i n,S i->h'.get i= .tip n->M'.tip i=n/\∃e rc,M'.cur i=(tb,e)/\Blk M' w' tb rc/\e<=rc.size/\∀off,e<=off->M'.im tb off=none
 maps: ∀i es,S i->h'.get i= .map es-> ∃ents clock,M'.loc i=some tb/\w'.heap[tb]?=some (.map ents clock)/\uW M' es ents.toList/\Na ents clock
 resv: ∀i,S i->h'.get i≠ .free
theorem UpdS.done{S:Nat->Prop}{tb:Nat}{M:Meta}{h:Heap}{w:World}{M':Meta}{w':World}(u:UpdS S tb M h w M' g w')(a:Inv M h w):
  Inv M' g w'/\Pres w.heap.size M h w M' g w':=by
 have z:=u.ext;have ne: ∀j b,¬S j->Wb M h j=some b->b≠tb:=by
  intro j b y e m;subst m;rcases u.own with⟨i,l,e'⟩|e'
  ·exact y (a.one j i b e e'▸l)
  ·have:=a.wb_lt e;omega
 have same: ∀j,¬S j->Wb M' g j=Wb M h j:=by
  intro j y;simp only [Wb,u.get j y,u.loc j y,u.cur j y]
 refine⟨⟨u.nid,u.fresh,u.freshl,?_,?_,?_,?_,?_,?_,fun id e=>?_⟩,⟨z,u.size,u.os,u.tape,u.output,?_⟩⟩
 ·intro id cs e
  by_cases l:S id
  ·obtain⟨rc,h1,h2⟩:=u.cells id cs l e;exact⟨tb,rc,h1,h2⟩
  ·rw [u.get id l]at e;obtain⟨b,rc,h1,h2,h3,h4,G⟩:=a.cells id cs e;have m:b≠tb:=ne id b l (by simp [Wb,e,h1]);exact⟨b,rc,(u.loc id l).trans h1,h2.keep (u.heap b h2.lt m) (u.bsz b m),h3,h4.mono z,fun p=>(u.im b p m).trans (G p)⟩
 ·intro id n e
  by_cases l:S id
  ·obtain⟨h0,e',rc,h1,h2⟩:=u.tips id n l e;exact⟨h0,tb,e',rc,h1,h2⟩
  ·rw [u.get id l]at e;obtain⟨h0,b,e',rc,h1,h2,h3,h4⟩:=a.tips id n e;have m:b≠tb:=ne id b l (by simp [Wb,e,h1]);exact⟨(u.tip id l).trans h0,b,e',rc,(u.cur id l).trans h1,h2.keep (u.heap b h2.lt m) (u.bsz b m),h3,fun p K=>(u.im b p m).trans (h4 p K)⟩
 ·intro id A e
  by_cases l:S id
  ·obtain⟨ents,c,h1,h2⟩:=u.maps id A l e;exact⟨tb,ents,c,h1,h2⟩
  ·rw [u.get id l]at e;obtain⟨b,ents,c,h1,h2,h3⟩:=a.maps id A e;have m:b≠tb:=ne id b l (by simp [Wb,e,h1]);exact⟨b,ents,c,(u.loc id l).trans h1,(u.heap b (cP h2) m).trans h2,h3.1.mono z,h3.2⟩
 ·intro b p v e
  by_cases m:b=tb
  ·subst m;exact u.imtb p v e
  ·rw [u.im b p m]at e;rw [oU (u.heap b (a.im_lt e) m)];exact a.im b p v e
 ·intro b n e
  by_cases m:b=tb
  ·subst m;exact u.bsztb n e
  ·rw [u.bsz b m]at e;have:=a.bsz b n e;have:=u.size;omega
 ·intro id q b e e'
  by_cases l:S id
  ·have m:=u.wb id b l e;subst m
   by_cases hi':S q
   ·exact u.one id q l hi' e e'
   ·rw [same q hi']at e';exact absurd rfl (ne q b hi' e')
  ·rw [same id l]at e
   by_cases hi':S q
   ·have m:=u.wb q b hi' e';exact absurd m (ne id b l e)
   ·rw [same q hi']at e';exact a.one id q b e e'
 ·by_cases l:S id
  ·exact absurd e (u.resv id l)
  ·rw [u.get id l]at e;rw [u.loc id l,u.tip id l];exact a.resv id e
 ·intro b m D;have r:b≠tb:=by
   intro e;subst e;rcases u.own with⟨i,l,e'⟩|e'
   ·exact D ⟨i,e'⟩
   ·omega
  refine⟨u.heap b m r,?_,fun p=>u.im b p r⟩;rintro⟨id,e⟩
  by_cases l:S id
  ·exact r (u.wb id b l e)
  ·rw [same id l]at e;exact D ⟨id,e⟩
section
variable {M:Meta} {h:Heap} {w w':World} (a:Inv M h w)
theorem jJ{rc:Array Value}{fz:Nat×Nat}{b:Nat}(g:w'.heap[b]?=some (.cells rc U fz))(hf:fz.2<=fz.1\/rc.size<=fz.1)(i:Nat)(l:i<rc.size):w'.frozen? ⟨b,i,none⟩=false:=by
 obtain⟨m,j⟩:=fz;simp only [World.frozen?,g];simp only at hf;simp;omega
include a
theorem B2{rc:Array Value}{r:TypeId}{fz:Nat×Nat}(q:NewBlk w w' (.cells rc r fz))(hf:fz.2<=fz.1\/rc.size<=fz.1){cs:Y14}(p:cs.length<=rc.size)(A:eG M cs (rc.toList.take cs.length)):
  ∃M',Inv M' (h.push (.cells cs)) w'/\Pres w.heap.size M h w M' (h.push (.cells cs)) w'/\M'.loc h.next=some w.heap.size/\M'.bsz w.heap.size=some rc.size:=by
 let M':Meta:= {M with nid:=M.nid+1,loc:=fun i=>if i=h.next then some w.heap.size else M.loc i,bsz:=fun b=>if b=w.heap.size then some rc.size else M.bsz b }
 have l:Fresh1 M M' h w:=⟨fun i m=>by simp [M',m],fun _ _=>rfl,fun _ _=>rfl,fun _ _ _=>rfl,fun b z=>by simp [M',z],rfl⟩;have j: ∀g,M.im w.heap.size g=none:=by
  intro g
  cases e:M.im w.heap.size g with
  |none=>rfl
  |some v=>have:=a.im_lt e;omega
 have y:=l.ext a;have:=l.inv a (x:= .cells cs) q (fun i m=>by simp [M',show i≠h.next by omega,a.freshl i JF])
  (by simp [Wb,Heap.get_push,M']) (fun g v e=>by simp [M',j]at e)
  (fun cs' e=>by
   simp at e;subst e;exact⟨rc,by simp [M'],⟨⟨r,fz,q.new⟩,fun i m=>jJ q.new hf i m,by simp [M']⟩,p,A.mono y,j⟩)
  (fun n e=>by simp at e) (fun D e=>by simp at e)
 exact⟨M',this.1,this.2,by simp [M'],by simp [M']⟩
theorem b9O{rc:Array Value}{A:TypeId}{fz:Nat×Nat}(q:NewBlk w w' (.cells rc A fz))(hf:fz.2<=fz.1\/rc.size<=fz.1){cs:Y14}{len sz cap:Nat}(D:cs.length=len*sz)(j:len<=cap)(m:cap*sz<=rc.size)
  (hc:eG M cs (rc.toList.take cs.length)):
  ∃M',Inv M' (h.push (.tip (len*sz))) w'/\Pres w.heap.size M h w M' (h.push (.tip (len*sz))) w'/\VR M' (.vslice (some h.next) (len*sz) len sz cs) (.slice (some ⟨w.heap.size,0,none⟩) len cap):=by
 have y:cs.length<=rc.size:=by
  have:len*sz<=cap*sz:=BZ _ j;omega
 let M':Meta:= {M with nid:=M.nid+1,tip:=fun i=>if i=h.next then cs.length else M.tip i,cur:=fun i=>if i=h.next then(w.heap.size,cs.length)else M.cur i,im:=fun b o=>if b=w.heap.size then(if o<cs.length then rc[o]? else none)else M.im b o,bsz:=fun b=>if b=w.heap.size then some rc.size else M.bsz b }
 have p:Fresh1 M M' h w:=⟨fun _ _=>rfl,fun i g=>by simp [M',g],fun i g=>by simp [M',g],fun b o r=>by simp [M',r],fun b r=>by simp [M',r],rfl⟩;have G:=p.ext a;rw [<-D];have:=p.inv a (x:= .tip cs.length) q (fun i g=>a.freshl i JF)
  (by simp [Wb,Heap.get_push,M']) (fun z v e=>by
   simp only [M',if_true]at e;split at e
   ·simp only [World.cell?,q.new,CV,AU,if_false];exact e
   ·simp at e)
  (fun cs' e=>by simp at e)
  (fun n e=>by
   simp at e;subst e;exact⟨by simp [M'],cs.length,rc,by simp [M'],⟨⟨A,fz,q.new⟩,fun i g=>jJ q.new hf i g,by simp [M']⟩,y,fun z L=>by simp [M'];omega⟩)
  (fun K e=>by simp at e)
 refine⟨M',this.1,this.2,?_⟩;have l:=hc.mono G;refine .vslice ⟨w.heap.size,0,none⟩ (fun i=>rc.getD i undef) D j (.inr ⟨rfl,rc.size,by simp [M'],by simpa using m⟩) ?_ ?_ l.2 ?_ JH
 ·intro i g;simp [M',g,show i<rc.size by omega]
 ·intro i g;have:=l.1.2 i g (by simp;omega);simpa [show i<rc.size by omega]using this
 ·intro i e;simp at e;subst e;exact⟨by show h.next<M.nid+1;rw [a.nid];omega,AG _,by simp [M'],fun _=> .inr (by simp [M'])⟩
theorem b9M{rc:Array Value}{z:TypeId}{fz:Nat×Nat}(l:NewBlk w w' (.cells rc z fz)){cs:Y14}{len sz:Nat}(D:cs.length=len*sz)(h0:0<sz)(m:eG M cs rc.toList):
  ∃M',Inv M' h w'/\Pres w.heap.size M h w M' h w'/\VR M' (.vslice none 1 len sz cs) (.slice (some ⟨w.heap.size,0,none⟩) len len):=by
 have G:rc.size=cs.length:=by have:=m.len;simpa using this.symm
 let M':Meta:= {M with im:=fun b o=>if b=w.heap.size then rc[o]? else M.im b o,bsz:=fun b=>if b=w.heap.size then some rc.size else M.bsz b }
 have q:Ext M M':=⟨AG _,fun _ _ x=>x,fun c o v x=>by
  simp only [M'];rw [if_neg (by have:=a.im_lt x;omega)];exact x,fun c y x=>by
  simp only [M'];rw [if_neg (by have:=a.bsz c y x;omega)];exact x,fun _ _=>AG _,fun _ _ _=>rfl⟩
 have g:Inv M' h w'/\Pres w.heap.size M h w M' h w':=by
  refine UpdS.done (S:=fun _=>False) (tb:=w.heap.size) ?_ a;refine {
   get:=fun _ _=>rfl,loc:=fun _ _=>rfl,tip:=fun _ _=>rfl,cur:=fun _ _=>rfl,heap:=fun j A _=>l.old j A,im:=fun c o m=>by simp [M',m],bsz:=fun c m=>by simp [M',m],size:=(by rw [l.size];omega),
   os:=l.os,tape:=l.tape,output:=l.output,own:= .inr rfl,wb:=fun _ _ hf=>hf.elim,one:=fun _ _ hf=>hf.elim,ext:=q,nid:=a.nid,fresh:=a.fresh,freshl:=a.freshl,imtb:=?_,bsztb:=?_,cells:=fun _ _ hf=>hf.elim,tips:=fun _ _ hf=>hf.elim,maps:=fun _ _ hf=>hf.elim,resv:=fun _ hf=>hf.elim }
  ·intro K v x;simp only [M',if_true]at x;simp only [World.cell?,l.new,CV,AU,if_false];exact x
  ·intro y x;rw [l.size];omega
 refine⟨M',g.1,g.2,?_⟩;have p:=m.mono q;refine .vslice ⟨w.heap.size,0,none⟩ (fun i=>rc.getD i undef) D (AG _) (.inr ⟨rfl,rc.size,by simp [M'],by simp;omega⟩) ?_ ?_ p.2 JH (fun _=> .inr ⟨rfl,rfl,h0⟩)
 ·intro i r;simp [M',show i<rc.size by omega]
 ·intro i r;have:=p.1.2 i r (by simp;omega);simpa [show i<rc.size by omega]using this
theorem b9N(p:NewBlk w w' (.map #[] 0)): ∃M',Inv M' (h.push (.map [])) w'/\Pres w.heap.size M h w M' (h.push (.map [])) w'/\M'.loc h.next=some w.heap.size:=by
 let M':Meta:= {M with nid:=M.nid+1,loc:=fun i=>if i=h.next then some w.heap.size else M.loc i }
 have l:Fresh1 M M' h w:=⟨fun i m=>by simp [M',m],fun _ _=>rfl,fun _ _=>rfl,fun _ _ _=>rfl,fun _ _=>rfl,rfl⟩;have j: ∀g,M.im w.heap.size g=none:=by
  intro g
  cases e:M.im w.heap.size g with
  |none=>rfl
  |some v=>have:=a.im_lt e;omega
 have:=l.inv a (x:= .map []) p (fun i m=>by simp [M',show i≠h.next by omega,a.freshl i JF])
  (by simp [Wb,Heap.get_push,M']) (fun g v e=>by simp [M',j]at e)
  (fun cs' e=>by simp at e) (fun n e=>by simp at e)
  (fun q e=>by simp at e;subst e;exact⟨#[],0,by simp [M'],p.new,⟨cO.nil _,cO.nil _⟩,Na.nil⟩)
 exact⟨M',this.1,this.2,by simp [M']⟩
theorem Bg{id b:Nat}{cs cs':Y14}(p:h.get id= .cells cs)(m:M.loc id=some b)(D: ∀k,k≠b->w'.heap[k]?=w.heap[k]?)(G:w'.heap.size=w.heap.size)
  (hr:w'.os=w.os/\w'.tape=w.tape/\w'.output=w.output) (hB:Blk M w' b H) (hle:cs'.length<=H.size) (hc:eG M cs' (H.toList.take cs'.length)):
  Inv M (h.set id (.cells cs')) w'/\Pres w.heap.size M h w M (h.set id (.cells cs')) w':=by
 obtain⟨L,rc,h1,h2,h3,h4,z⟩:=a.cells id cs p;rw [m]at h1;simp at h1;subst h1;refine UpdS.done (S:=fun j=>j=id) (tb:=b) ?_ a;refine {
  get:=fun j l=>by rw [Heap.get_set,if_neg l],loc:=fun _ _=>rfl,tip:=fun _ _=>rfl,cur:=fun _ _=>rfl,heap:=fun k _ q=>D k q,im:=fun _ _ _=>rfl,bsz:=fun _ _=>rfl,size:=JF,
  os:=hr.1,tape:=hr.2.1,output:=hr.2.2,own:= .inl ⟨id,rfl,by simp [Wb,p,m]⟩,wb:=?_,one:=fun i O e e' _ _=>e.trans e'.symm,ext:=Ext.refl M,nid:=a.nid,fresh:=?_,freshl:=a.freshl,imtb:=?_,bsztb:=?_,cells:=?_,tips:=?_,maps:=?_,resv:=fun i A e=>by subst A;simp [Heap.get_set]at e }
 ·intro i k e y;subst e;simp [Wb,Heap.get_set,m]at y;exact y.symm
 ·intro j l;rw [Heap.next_set]at l;rw [Heap.get_set,if_neg]
  ·exact a.fresh j l
  ·intro e;subst e;rw [a.fresh j l]at p;simp at p
 ·intro K v e;rw [z]at e;simp at e
 ·intro n e;exact G▸a.bsz b n e
 ·intro i r e g;subst e;simp [Heap.get_set]at g;subst g;exact⟨H,m,hB,hle,hc,z⟩
 ·intro i n e g;subst e;simp [Heap.get_set]at g
 ·intro i n e g;subst e;simp [Heap.get_set]at g
theorem Fp{id b:Nat}{z es':List (IV×IV)}{ents:Array MapEntry}{clock:Nat}(p:h.get id= .map z)(m:M.loc id=some b)(K: ∀k,k≠b->w'.heap[k]?=w.heap[k]?)(L:w'.heap.size=w.heap.size)
  (hr:w'.os=w.os/\w'.tape=w.tape/\w'.output=w.output) (hB:w'.heap[b]?=some (.map ents clock)) (hc:uW M es' ents.toList/\Na ents clock):
  Inv M (h.set id (.map es')) w'/\Pres w.heap.size M h w M (h.set id (.map es')) w':=by
 obtain⟨O,q,R,h1,h2,h3⟩:=a.maps id z p;rw [m]at h1;simp at h1;subst h1;refine UpdS.done (S:=fun j=>j=id) (tb:=b) ?_ a;refine {
  get:=fun j l=>by rw [Heap.get_set,if_neg l],loc:=fun _ _=>rfl,tip:=fun _ _=>rfl,cur:=fun _ _=>rfl,heap:=fun k _ r=>K k r,im:=fun _ _ _=>rfl,bsz:=fun _ _=>rfl,size:=JF,
  os:=hr.1,tape:=hr.2.1,output:=hr.2.2,own:= .inl ⟨id,rfl,by simp [Wb,p,m]⟩,wb:=?_,one:=fun i V e e' _ _=>e.trans e'.symm,ext:=Ext.refl M,nid:=a.nid,fresh:=?_,freshl:=a.freshl,imtb:=?_,bsztb:=?_,cells:=?_,tips:=?_,maps:=?_,resv:=fun i G e=>by subst G;simp [Heap.get_set]at e }
 ·intro i k e D;subst e;simp [Wb,Heap.get_set,m]at D;exact D.symm
 ·intro j l;rw [Heap.next_set]at l;rw [Heap.get_set,if_neg]
  ·exact a.fresh j l
  ·intro e;subst e;rw [a.fresh j l]at p;simp at p
 ·intro y v e;have:=a.im b y v e;simp [World.cell?,h2]at this
 ·intro n e;exact L▸a.bsz b n e
 ·intro i n e g;subst e;simp [Heap.get_set]at g
 ·intro i n e g;subst e;simp [Heap.get_set]at g
 ·intro i A e g;subst e;simp [Heap.get_set]at g;subst g;exact⟨ents,clock,m,hB,hc⟩
theorem b1P{id e k b g:Nat}{rc m:Array Value}(D:h.get id= .tip e)(z:M.cur id=(b,g))(hB:Blk M w b rc)(y: ∃K fz,w'.heap[b]?=some (.cells m K fz))(R: ∀i,i<m.size->w'.frozen? ⟨b,i,none⟩=false)
  (hsz:m.size=rc.size) (hpos:g+k<=rc.size) (hold: ∀i,i<g->m[i]?=rc[i]?) (hk0:0<k)
  (hk: ∀j,j≠b->w'.heap[j]?=w.heap[j]?) (hs:w'.heap.size=w.heap.size) (hr:w'.os=w.os/\w'.tape=w.tape/\w'.output=w.output):
  ∃M',Inv M' (h.set id (.tip (e+k))) w'/\Pres w.heap.size M h w M' (h.set id (.tip (e+k))) w'/\M'.tip id=e+k/\M'.cur id=(b,g+k)/\M'.nid=M.nid/\M'.bsz=M.bsz/\
   (∀i,i<k->M'.im b (g+i)=m[g+i]?):=by
 obtain⟨h0,b',e',a2,h1,h2,h3,h4⟩:=a.tips id e D;rw [z]at h1;simp at h1;obtain⟨rfl,rfl⟩:=h1;obtain⟨K,fz,y⟩:=y
 let M':Meta:= {M with tip:=fun i=>if i=id then e+k else M.tip i,cur:=fun i=>if i=id then(b,g+k)else M.cur i,im:=fun c o=>if c=b/\g<=o/\o<g+k then m[o]? else M.im c o }
 have V:id<h.next:=by
  rcases BB id h.next with X|X
  ·exact X
  ·rw [a.fresh id X]at D;simp at D
 have hE:Ext M M':=⟨AG _,fun _ _ x=>x,fun c o v x=>by
  simp only [M'];split
  ·rename_i O;obtain⟨rfl,q1,q2⟩:=O;rw [h4 o q1]at x;simp at x
  ·exact x,fun _ _ x=>x,fun i G=>by
   simp only [M'];split
   ·rename_i e;subst e;omega
   ·exact AG _,fun i G ht=>by
   simp only [M']at ht⊢;split at ht
   ·rename_i e;subst e;omega
   ·rename_i e;rw [if_neg e]⟩
 refine⟨M',?_⟩;have p:Inv M' (h.set id (.tip (e+k))) w'/\Pres w.heap.size M h w M' (h.set id (.tip (e+k))) w':=by
  refine UpdS.done (S:=fun j=>j=id) (tb:=b) ?_ a;refine {
   get:=fun j r=>by rw [Heap.get_set,if_neg r],loc:=fun _ _=>rfl,tip:=fun j r=>by simp [M',r],cur:=fun j r=>by simp [M',r],heap:=fun j _ r=>hk j r,im:=fun c o O=>by simp [M',O],bsz:=fun _ _=>rfl,size:=JF,
   os:=hr.1,tape:=hr.2.1,output:=hr.2.2,own:= .inl ⟨id,rfl,by simp [Wb,D,z]⟩,wb:=?_,one:=fun i i' e e' _ _=>e.trans e'.symm,ext:=hE,nid:=a.nid,fresh:=?_,freshl:=a.freshl,imtb:=?_,bsztb:=?_,cells:=?_,tips:=?_,maps:=?_,resv:=fun i G e=>by subst G;simp [Heap.get_set]at e }
  ·intro i c e Z;subst e;simp [Wb,Heap.get_set,M']at Z;exact Z.symm
  ·intro j r;rw [Heap.next_set]at r;rw [Heap.get_set,if_neg JF];exact a.fresh j r
  ·intro l v x;simp only [M']at x;simp only [World.cell?,y,CV,AU,if_false];split at x
   ·exact x
   ·have:=a.im b l v x;have Y:l<g:=by
     rcases BB l g with q|q
     ·exact q
     ·rw [h4 l q]at x;simp at x
    obtain⟨a0,a1,L⟩:=hB.at_;simp only [World.cell?,L,CV,AU,if_false]at this;rw [hold l Y];exact this
  ·intro n x;exact hs▸a.bsz b n x
  ·intro i n e A;subst e;simp [Heap.get_set]at A
  ·intro i n e A;subst e;simp [Heap.get_set]at A;subst A;refine⟨by simp [M'],g+k,m,by simp [M'],⟨⟨K,fz,y⟩,R,by show M.bsz b=_;rw [hB.bsz,hsz]⟩,JF,fun l ho=>?_⟩;simp only [M'];rw [if_neg JF];exact h4 l JF
  ·intro i n e A;subst e;simp [Heap.get_set]at A
 refine⟨p.1,p.2,by simp [M'],by simp [M'],rfl,rfl,fun i G=>?_⟩;simp only [M'];rw [if_pos ⟨trivial,JF,JF⟩]
theorem c1S{id e k n:Nat}{rc:Array Value}{fz:Nat×Nat}(y:h.get id= .tip e)(m:NewBlk w w' (.cells rc U fz))(hf:fz.2<=fz.1\/rc.size<=fz.1)(V:n<=rc.size)(R:0<k):
  ∃M',Inv M' (h.set id (.tip (e+k))) w'/\Pres w.heap.size M h w M' (h.set id (.tip (e+k))) w'/\M'.tip id=e+k/\M'.cur id=(w.heap.size,n)/\M'.nid=M.nid/\M'.bsz w.heap.size=some rc.size/\
   (∀i,i<n->M'.im w.heap.size i=rc[i]?):=by
 obtain⟨h0,Y,e',X,h1,h2,h3,h4⟩:=a.tips id e y
 let M':Meta:= {M with tip:=fun i=>if i=id then e+k else M.tip i,cur:=fun i=>if i=id then(w.heap.size,n)else M.cur i,im:=fun c o=>if c=w.heap.size then(if o<n then rc[o]? else none)else M.im c o,bsz:=fun b=>if b=w.heap.size then some rc.size else M.bsz b }
 have z:id<h.next:=by
  rcases BB id h.next with A|A
  ·exact A
  ·rw [a.fresh id A]at y;simp at y
 have O:Ext M M':=⟨AG _,fun _ _ x=>x,fun c o v x=>by
  simp only [M'];rw [if_neg (by have:=a.im_lt x;omega)];exact x,fun c D x=>by
  simp only [M'];rw [if_neg (by have:=a.bsz c D x;omega)];exact x,fun i p=>by
   simp only [M'];split
   ·rename_i e;subst e;omega
   ·exact AG _,fun i p L=>by
   simp only [M']at L⊢;split at L
   ·rename_i e;subst e;omega
   ·rename_i e;rw [if_neg e]⟩
 refine⟨M',?_⟩;have g:Inv M' (h.set id (.tip (e+k))) w'/\Pres w.heap.size M h w M' (h.set id (.tip (e+k))) w':=by
  refine UpdS.done (S:=fun j=>j=id) (tb:=w.heap.size) ?_ a;refine {
   get:=fun j l=>by rw [Heap.get_set,if_neg l],loc:=fun _ _=>rfl,tip:=fun j l=>by simp [M',l],cur:=fun j l=>by simp [M',l],heap:=fun j l _=>m.old j l,im:=fun c o r=>by simp [M',r],bsz:=fun c r=>by simp [M',r],size:=(by rw [m.size];omega),
   os:=m.os,tape:=m.tape,output:=m.output,own:= .inr rfl,wb:=?_,one:=fun i i' e e' _ _=>e.trans e'.symm,ext:=O,nid:=a.nid,fresh:=?_,freshl:=a.freshl,imtb:=?_,bsztb:=?_,cells:=?_,tips:=?_,maps:=?_,resv:=fun i p e=>by subst p;simp [Heap.get_set]at e }
  ·intro i c e K;subst e;simp [Wb,Heap.get_set,M']at K;exact K.symm
  ·intro j l;rw [Heap.next_set]at l;rw [Heap.get_set,if_neg JF];exact a.fresh j l
  ·intro G v x;simp only [M',if_true]at x;simp only [World.cell?,m.new,CV,AU,if_false];split at x
   ·exact x
   ·simp at x
  ·intro D x;rw [m.size];omega
  ·intro i n e q;subst e;simp [Heap.get_set]at q
  ·intro i D e q;subst e;simp [Heap.get_set]at q;subst q;exact⟨by simp [M'],n,rc,by simp [M'],⟨⟨U,fz,m.new⟩,fun i p=>jJ m.new hf i p,by simp [M']⟩,V,fun G Z=>by simp [M'];omega⟩
  ·intro i n e q;subst e;simp [Heap.get_set]at q
 refine⟨g.1,g.2,by simp [M'],by simp [M'],rfl,by simp [M'],fun i p=>?_⟩;simp only [M',if_true];rw [if_pos p]
theorem Pb{id b:Nat}{cs cs':Y14}(p:h.get id= .cells cs)(L:M.loc id=some b)(R: ∀k,k≠b->w'.heap[k]?=w.heap[k]?)(V:w'.heap.size=w.heap.size)
  (hr:w'.os=w.os/\w'.tape=w.tape/\w'.output=w.output) (hB:Blk M w' b H) (hle:cs'.length<=H.size) (hc:eG M cs' (H.toList.take cs'.length)):
  ∃M',Inv M' ((h.set id .dead).push (.cells cs')) w'/\Pres w.heap.size M h w M' ((h.set id .dead).push (.cells cs')) w'/\M'.loc h.next=some b/\M'.bsz b=some H.size:=by
 obtain⟨Y,rc,h1,h2,h3,h4,G⟩:=a.cells id cs p;rw [L]at h1;simp at h1;subst h1;have q:id<h.next:=by
  rcases BB id h.next with z|z
  ·exact z
  ·rw [a.fresh id z]at p;simp at p
 let M':Meta:= {M with nid:=M.nid+1,loc:=fun i=>if i=h.next then some b else M.loc i }
 have K:Ext M M':=⟨by simp [M'],fun i c x=>by
  simp only [M'];rw [if_neg];exact x;intro e;subst e;rw [a.freshl _ (AG _)]at x;simp at x,fun _ _ _ x=>x,fun _ _ x=>x,fun _ _=>AG _,fun _ _ _=>rfl⟩
 refine⟨M',?_⟩;have g: ∀j,((h.set id .dead).push (.cells cs')).get j=if j=h.next then .cells cs' else if j=id then .dead else h.get j:=by
  intro j;rw [Heap.get_push,Heap.next_set,Heap.get_set]
 have l:Inv M' ((h.set id .dead).push (.cells cs')) w'/\Pres w.heap.size M h w M' ((h.set id .dead).push (.cells cs')) w':=by
  refine UpdS.done (S:=fun j=>j=id\/j=h.next) (tb:=b) ?_ a;have D:Wb M' ((h.set id .dead).push (.cells cs')) id=none:=by simp [Wb,g,show id≠h.next by omega]
  have X:Wb M' ((h.set id .dead).push (.cells cs')) h.next=some b:=by simp [Wb,g,M']
  refine {
   get:=fun j m=>by rw [g,if_neg (fun e=>m (.inr e)),if_neg (fun e=>m (.inl e))],loc:=fun j m=>by simp [M',show j≠h.next from fun e=>m (.inr e)],tip:=fun _ _=>rfl,cur:=fun _ _=>rfl,heap:=fun k _ y=>R k y,im:=fun _ _ _=>rfl,bsz:=fun _ _=>rfl,size:=JF,
   os:=hr.1,tape:=hr.2.1,output:=hr.2.2,own:= .inl ⟨id,.inl rfl,by simp [Wb,p,L]⟩,wb:=?_,one:=?_,ext:=K,nid:=?_,fresh:=?_,freshl:=?_,imtb:=?_,bsztb:=?_,cells:=?_,tips:=?_,maps:=?_,resv:=fun i O e=>by rw [g]at e;rcases O with rfl|rfl<;>(repeat' split at e)<;>simp_all }
  ·rintro i c (rfl|rfl) ew
   ·rw [D]at ew;simp at ew
   ·rw [X]at ew;simp at ew;exact ew.symm
  ·rintro i i' (rfl|rfl) (rfl|rfl) e1 e2
   ·rfl
   ·rw [D]at e1;simp at e1
   ·rw [D]at e2;simp at e2
   ·rfl
  ·show M.nid+1=_;rw [a.nid];rfl
  ·intro j m;have r:h.next+1<=j:=m;rw [g,if_neg JF,if_neg JF];exact a.fresh j JF
  ·intro j m;have r:h.next+1<=j:=m;simp only [M'];rw [if_neg JF];exact a.freshl j JF
  ·intro A v e;have e':M.im b A=some v:=e;rw [G]at e';simp at e'
  ·intro n e;exact V▸a.bsz b n e
  ·rintro i cs'' (rfl|rfl) eg
   ·rw [g,if_neg JF]at eg;simp at eg
   ·rw [g,if_pos rfl]at eg;simp at eg;subst eg;exact⟨H,by simp [M'],⟨hB.at_,hB.free,hB.bsz⟩,hle,hc.mono K,G⟩
  ·rintro i n (rfl|rfl) eg
   ·rw [g,if_neg JF]at eg;simp at eg
   ·rw [g,if_pos rfl]at eg;simp at eg
  ·rintro i n (rfl|rfl) eg
   ·rw [g,if_neg JF]at eg;simp at eg
   ·rw [g,if_pos rfl]at eg;simp at eg
 exact⟨l.1,l.2,by simp [M'],hB.bsz⟩
theorem Zl{id:Nat}{cs cs':Y14}{rc:Array Value}{fz:Nat×Nat}(V:h.get id= .cells cs)(r:NewBlk w w' (.cells rc U fz))(hf:fz.2<=fz.1\/rc.size<=fz.1)(L:cs'.length<=rc.size)(y:eG M cs' (rc.toList.take cs'.length)):
  ∃M',Inv M' ((h.set id .dead).push (.cells cs')) w'/\Pres w.heap.size M h w M' ((h.set id .dead).push (.cells cs')) w'/\M'.loc h.next=some w.heap.size/\M'.bsz w.heap.size=some rc.size:=by
 have A:id<h.next:=by
  rcases BB id h.next with K|K
  ·exact K
  ·rw [a.fresh id K]at V;simp at V
 let M':Meta:= {M with nid:=M.nid+1,loc:=fun i=>if i=h.next then some w.heap.size else M.loc i,bsz:=fun b=>if b=w.heap.size then some rc.size else M.bsz b }
 have R:Ext M M':=⟨by simp [M'],fun i c x=>by
  simp only [M'];rw [if_neg];exact x;intro e;subst e;rw [a.freshl _ (AG _)]at x;simp at x,fun _ _ _ x=>x,fun c n x=>by
  simp only [M'];rw [if_neg (by have:=a.bsz c n x;omega)];exact x,fun _ _=>AG _,fun _ _ _=>rfl⟩
 have p: ∀m,M.im w.heap.size m=none:=by
  intro m
  cases e:M.im w.heap.size m with
  |none=>rfl
  |some v=>have:=a.im_lt e;omega
 refine⟨M',?_⟩;have g: ∀j,((h.set id .dead).push (.cells cs')).get j=if j=h.next then .cells cs' else if j=id then .dead else h.get j:=by
  intro j;rw [Heap.get_push,Heap.next_set,Heap.get_set]
 have l:Inv M' ((h.set id .dead).push (.cells cs')) w'/\Pres w.heap.size M h w M' ((h.set id .dead).push (.cells cs')) w':=by
  refine UpdS.done (S:=fun j=>j=id\/j=h.next) (tb:=w.heap.size) ?_ a;have O:Wb M' ((h.set id .dead).push (.cells cs')) id=none:=by simp [Wb,g,show id≠h.next by omega]
  have X:Wb M' ((h.set id .dead).push (.cells cs')) h.next=some w.heap.size:=by simp [Wb,g,M']
  refine {
   get:=fun j q=>by rw [g,if_neg (fun e=>q (.inr e)),if_neg (fun e=>q (.inl e))],loc:=fun j q=>by simp [M',show j≠h.next from fun e=>q (.inr e)],tip:=fun _ _=>rfl,cur:=fun _ _=>rfl,heap:=fun k G _=>r.old k G,im:=fun _ _ _=>rfl,bsz:=fun c y=>by simp [M',y],size:=(by rw [r.size];omega),
   os:=r.os,tape:=r.tape,output:=r.output,own:= .inr rfl,wb:=?_,one:=?_,ext:=R,nid:=?_,fresh:=?_,freshl:=?_,imtb:=?_,bsztb:=?_,cells:=?_,tips:=?_,maps:=?_,resv:=fun i z e=>by rw [g]at e;rcases z with rfl|rfl<;>(repeat' split at e)<;>simp_all }
  ·rintro i c (rfl|rfl) ew
   ·rw [O]at ew;simp at ew
   ·rw [X]at ew;simp at ew;exact ew.symm
  ·rintro i i' (rfl|rfl) (rfl|rfl) e1 e2
   ·rfl
   ·rw [O]at e1;simp at e1
   ·rw [O]at e2;simp at e2
   ·rfl
  ·show M.nid+1=_;rw [a.nid];rfl
  ·intro j q;have D:h.next+1<=j:=q;rw [g,if_neg JF,if_neg JF];exact a.fresh j JF
  ·intro j q;have D:h.next+1<=j:=q;simp only [M'];rw [if_neg JF];exact a.freshl j JF
  ·intro m v e;have e':M.im w.heap.size m=some v:=e;rw [p]at e';simp at e'
  ·intro n e;rw [r.size];omega
  ·rintro i cs'' (rfl|rfl) eg
   ·rw [g,if_neg JF]at eg;simp at eg
   ·rw [g,if_pos rfl]at eg;simp at eg;subst eg;exact⟨rc,by simp [M'],⟨⟨U,fz,r.new⟩,fun i z=>jJ r.new hf i z,by simp [M']⟩,L,y.mono R,p⟩
  ·rintro i n (rfl|rfl) eg
   ·rw [g,if_neg JF]at eg;simp at eg
   ·rw [g,if_pos rfl]at eg;simp at eg
  ·rintro i n (rfl|rfl) eg
   ·rw [g,if_neg JF]at eg;simp at eg
   ·rw [g,if_pos rfl]at eg;simp at eg
 exact⟨l.1,l.2,by simp [M'],by simp [M']⟩
end
end Go.Pv
end
section
namespace Go.Pv
open Go
section
variable {M:Meta} {h:Heap} {w w':World} (a:Inv M h w)
include a
theorem Inv.res_lt{n:Nat}(hf:h.get n= .free):n<h.next:=by
 rcases BB n h.next with g|g
 ·exact g
 ·rw [a.fresh n g]at hf;simp at hf
theorem Inv.im_none(g:Nat):M.im w.heap.size g=none:=by
 cases e:M.im w.heap.size g with
 |none=>rfl
 |some v=>have:=a.im_lt e;omega
theorem Ab{n:Nat}(R:h.get n= .free){rc:Array Value}{K:TypeId}{fz:Nat×Nat}(l:NewBlk w w' (.cells rc K fz))(hf:fz.2<=fz.1\/rc.size<=fz.1){cs:Y14}(D:cs.length<=rc.size)(y:eG M cs (rc.toList.take cs.length)):
  ∃M',Inv M' (h.set n (.cells cs)) w'/\Pres w.heap.size M h w M' (h.set n (.cells cs)) w'/\M'.loc n=some w.heap.size/\M'.bsz w.heap.size=some rc.size:=by
 obtain⟨r1,r2⟩:=a.resv n R;have V:=a.res_lt R
 let M':Meta:= {M with loc:=fun i=>if i=n then some w.heap.size else M.loc i,bsz:=fun b=>if b=w.heap.size then some rc.size else M.bsz b }
 have O:Ext M M':=⟨AG _,fun i c x=>by
  simp only [M'];rw [if_neg];exact x;intro e;subst e;rw [r1]at x;simp at x,fun _ _ _ x=>x,fun c k x=>by
  simp only [M'];rw [if_neg (by have:=a.bsz c k x;omega)];exact x,fun _ _=>AG _,fun _ _ _=>rfl⟩
 have g:Inv M' (h.set n (.cells cs)) w'/\Pres w.heap.size M h w M' (h.set n (.cells cs)) w':=by
  refine UpdS.done (S:=fun j=>j=n) (tb:=w.heap.size) ?_ a;refine {
   get:=fun j m=>by rw [Heap.get_set,if_neg m],loc:=fun j m=>by simp [M',show j≠n from m],tip:=fun _ _=>rfl,cur:=fun _ _=>rfl,heap:=fun k A _=>l.old k A,im:=fun _ _ _=>rfl,bsz:=fun c y=>by simp [M',y],size:=(by rw [l.size];omega),
   os:=l.os,tape:=l.tape,output:=l.output,own:= .inr rfl,wb:=?_,one:=fun i X e e' _ _=>e.trans e'.symm,ext:=O,nid:=a.nid,fresh:=?_,freshl:=?_,imtb:=?_,bsztb:=?_,cells:=?_,tips:=?_,maps:=?_,resv:=fun i z e=>by subst z;simp [Heap.get_set]at e }
  ·rintro i c rfl L;simp [Wb,Heap.get_set,M']at L;exact L.symm
  ·intro j m;have p:h.next<=j:=m;rw [Heap.get_set,if_neg JF];exact a.fresh j p
  ·intro j m;have p:h.next<=j:=m;simp only [M'];rw [if_neg JF];exact a.freshl j p
  ·intro q v e;have e':M.im w.heap.size q=some v:=e;rw [a.im_none]at e';simp at e'
  ·intro k e;rw [l.size];omega
  ·rintro i G rfl r;simp [Heap.get_set]at r;subst r;exact⟨rc,by simp [M'],⟨⟨K,fz,l.new⟩,fun i z=>jJ l.new hf i z,by simp [M']⟩,D,y.mono O,fun q=>a.im_none q⟩
  ·rintro i k rfl r;simp [Heap.get_set]at r
  ·rintro i k rfl r;simp [Heap.get_set]at r
 exact⟨M',g.1,g.2,by simp [M'],by simp [M']⟩
theorem b9E{n:Nat}(D:h.get n= .free)(p:NewBlk w w' (.map #[] 0)):
  ∃M',Inv M' (h.set n (.map [])) w'/\Pres w.heap.size M h w M' (h.set n (.map [])) w'/\M'.loc n=some w.heap.size:=by
 obtain⟨r1,r2⟩:=a.resv n D;have L:=a.res_lt D
 let M':Meta:= {M with loc:=fun i=>if i=n then some w.heap.size else M.loc i }
 have G:Ext M M':=⟨AG _,fun i c x=>by
  simp only [M'];rw [if_neg];exact x;intro e;subst e;rw [r1]at x;simp at x,fun _ _ _ x=>x,fun c k x=>x,fun _ _=>AG _,fun _ _ _=>rfl⟩
 have g:Inv M' (h.set n (.map [])) w'/\Pres w.heap.size M h w M' (h.set n (.map [])) w':=by
  refine UpdS.done (S:=fun j=>j=n) (tb:=w.heap.size) ?_ a;refine {
   get:=fun j l=>by rw [Heap.get_set,if_neg l],loc:=fun j l=>by simp [M',show j≠n from l],tip:=fun _ _=>rfl,cur:=fun _ _=>rfl,heap:=fun k r _=>p.old k r,im:=fun _ _ _=>rfl,bsz:=fun c R=>rfl,size:=(by rw [p.size];omega),
   os:=p.os,tape:=p.tape,output:=p.output,own:= .inr rfl,wb:=?_,one:=fun i V e e' _ _=>e.trans e'.symm,ext:=G,nid:=a.nid,fresh:=?_,freshl:=?_,imtb:=?_,bsztb:=?_,cells:=?_,tips:=?_,maps:=?_,resv:=fun i K e=>by subst K;simp [Heap.get_set]at e }
  ·rintro i c rfl A;simp [Wb,Heap.get_set,M']at A;exact A.symm
  ·intro j l;have m:h.next<=j:=l;rw [Heap.get_set,if_neg JF];exact a.fresh j m
  ·intro j l;have m:h.next<=j:=l;simp only [M'];rw [if_neg JF];exact a.freshl j m
  ·intro y v e;have e':M.im w.heap.size y=some v:=e;rw [a.im_none]at e';simp at e'
  ·intro k e;rw [p.size];omega
  ·rintro i z rfl q;simp [Heap.get_set]at q
  ·rintro i k rfl q;simp [Heap.get_set]at q
  ·rintro i O rfl q;simp [Heap.get_set]at q;subst q;exact⟨#[],0,by simp [M'],p.new,⟨cO.nil _,cO.nil _⟩,Na.nil⟩
 exact⟨M',g.1,g.2,by simp [M']⟩
theorem b9F{n:Nat}(hn:h.get n= .free){rc:Array Value}{X:TypeId}{fz:Nat×Nat}(m:NewBlk w w' (.cells rc X fz))(hf:fz.2<=fz.1\/rc.size<=fz.1){cs:Y14}{len sz cap:Nat}(hl:cs.length=len*sz)(h0:0<cs.length)(p:len<=cap)(D:cap*sz<=rc.size)
  (z:eG M cs (rc.toList.take cs.length)):
  ∃M',Inv M' (h.set n (.tip (len*sz))) w'/\Pres w.heap.size M h w M' (h.set n (.tip (len*sz))) w'/\VR M' (.vslice (some n) (len*sz) len sz cs) (.slice (some ⟨w.heap.size,0,none⟩) len cap):=by
 obtain⟨r1,r2⟩:=a.resv n hn;have O:=a.res_lt hn;have L:cs.length<=rc.size:=by
  have:len*sz<=cap*sz:=BZ _ p;omega
 let M':Meta:= {M with tip:=fun i=>if i=n then cs.length else M.tip i,cur:=fun i=>if i=n then(w.heap.size,cs.length)else M.cur i,im:=fun b o=>if b=w.heap.size then(if o<cs.length then rc[o]? else none)else M.im b o,bsz:=fun b=>if b=w.heap.size then some rc.size else M.bsz b }
 have Z:Ext M M':=⟨AG _,fun _ _ x=>x,fun c o v x=>by
  simp only [M'];rw [if_neg (by have:=a.im_lt x;omega)];exact x,fun c k x=>by
  simp only [M'];rw [if_neg (by have:=a.bsz c k x;omega)];exact x,fun i _=>by
  simp only [M']
  by_cases e:i=n
  ·rw [if_pos e,e,r2];exact BE _
  ·rw [if_neg e];exact AG _,fun i _ q=>by
  simp only [M']at q⊢
  by_cases e:i=n
  ·rw [if_pos e,e,r2]at q;omega
  ·rw [if_neg e]⟩
 rw [<-hl];have g:Inv M' (h.set n (.tip cs.length)) w'/\Pres w.heap.size M h w M' (h.set n (.tip cs.length)) w':=by
  refine UpdS.done (S:=fun j=>j=n) (tb:=w.heap.size) ?_ a;refine {
   get:=fun j l=>by rw [Heap.get_set,if_neg l],loc:=fun j l=>rfl,tip:=fun j l=>by simp [M',show j≠n from l],cur:=fun j l=>by simp [M',show j≠n from l],heap:=fun k K _=>m.old k K,im:=fun c o z=>by simp [M',z],bsz:=fun c z=>by simp [M',z],size:=(by rw [m.size];omega),
   os:=m.os,tape:=m.tape,output:=m.output,own:= .inr rfl,wb:=?_,one:=fun i i' e e' _ _=>e.trans e'.symm,ext:=Z,nid:=a.nid,fresh:=?_,freshl:=fun j l=>a.freshl j l,imtb:=?_,bsztb:=?_,cells:=?_,tips:=?_,maps:=?_,resv:=fun i r e=>by subst r;simp [Heap.get_set]at e }
  ·rintro i c rfl Y;simp [Wb,Heap.get_set,M']at Y;exact Y.symm
  ·intro j l;have G:h.next<=j:=l;rw [Heap.get_set,if_neg JF];exact a.fresh j G
  ·intro R v e;simp only [M',if_true]at e;split at e
   ·simp only [World.cell?,m.new,CV,AU,if_false];exact e
   ·simp at e
  ·intro k e;rw [m.size];omega
  ·rintro i V rfl y;simp [Heap.get_set]at y
  ·rintro i k rfl y;simp [Heap.get_set]at y;subst y;exact⟨by simp [M'],cs.length,rc,by simp [M'],⟨⟨X,fz,m.new⟩,fun i r=>jJ m.new hf i r,by simp [M']⟩,L,fun R ho=>by simp [M'];omega⟩
  ·rintro i es rfl y;simp [Heap.get_set]at y
 refine⟨M',g.1,g.2,?_⟩;have A:=z.mono Z;refine .vslice ⟨w.heap.size,0,none⟩ (fun i=>rc.getD i undef) hl p (.inr ⟨rfl,rc.size,by simp [M'],by simpa using D⟩) ?_ ?_ A.2 ?_ JH
 ·intro i r;simp [M',r,show i<rc.size by omega]
 ·intro i r;have:=A.1.2 i r (by simp;omega);simpa [show i<rc.size by omega]using this
 ·intro i e;simp at e;subst e;exact⟨by show n<M.nid;rw [a.nid];exact O,AG _,by simp [M'],fun _=> .inr (by simp [M'])⟩
end
end Go.Pv
end
section
namespace Go.Pv
section
variable {M:Meta} {h:Heap} {w:World}
theorem Inv.row(a:Inv M h w){id:Nat}{cs:Y14}(j:h.get id= .cells cs): ∃b rc,M.loc id=some b/\Blk M w b rc/\cs.length<=rc.size/\eG M cs (rc.toList.take cs.length)/\At w b 0 (rc.toList.take cs.length):=by
 obtain⟨b,rc,h1,h2,h3,h4,p⟩:=a.cells id cs j;refine⟨b,rc,h1,h2,h3,h4,fun i l=>?_⟩;obtain⟨m,fz,g⟩:=h2.at_;simp at l;simp [World.cell?,g,show i<rc.size by omega]
theorem uW.uncons{k v:IV}{l:List (IV×IV)}{ents:List MapEntry}(h:uW M ((k,v)::l) ents): ∃e r,ents=e::r/\VR M k e.key/\VR M v e.val/\uW M l r:=by
 obtain⟨h1,h2⟩:=h
 cases ents with
 |nil=>simp [cO]at h1
 |cons e r=>
  obtain⟨_,_,g,k1,k2⟩:=cO.uncons h1;obtain⟨_,_,j,m,p⟩:=cO.uncons h2;simp at g j;obtain⟨rfl,rfl⟩:=g;obtain⟨rfl,rfl⟩:=j;exact⟨e,r,rfl,k1,m,k2,p⟩
theorem uW.cons{k v:IV}{g:List (IV×IV)}{e:MapEntry}{r:List MapEntry}(j:VR M k e.key)(l:VR M v e.val)(h:uW M g r):uW M ((k,v)::g) (e::r):=
 ⟨cO.cons j h.1,cO.cons l h.2⟩
theorem uW.len{g:List (IV×IV)}{ents:List MapEntry}(h:uW M g ents):g.length=ents.length:=by simpa using h.1.1
theorem lH{d:TypeDesc}{x y:IV}{r:Bool}{a b:Value}(h:dH d x y=some r)(j:VR M x a)(l:VR M y b):Instr.sameNow d a b=some r/\(r=true->x=y/\a=b/\∀n,Instr.sameBits n b a=true):=by
 unfold dH at h;split at h
 ·simp at h;subst h;cases j;cases l;refine⟨rfl,fun e=>?_⟩;simp at e;subst e;exact⟨rfl,rfl,fun n=>by cases n<;>simp [Instr.sameBits]⟩
 ·split at h
  ·rename_i z;simp at h;subst h;subst z;cases j;cases l;refine⟨by simp [Instr.sameNow],fun e=>?_⟩;simp at e;subst e;exact⟨rfl,rfl,fun n=>by cases n<;>simp [Instr.sameBits]⟩
  ·simp at h
 ·simp at h;subst h
  cases j with|str g=>cases l with|str m=>
  refine⟨?_,fun e=>?_⟩
  ·simp only [Instr.sameNow];rw [beq_toListBytes,ByteArray.toList_eq,ByteArray.toList_eq]
  ·have e':g.data.toList=m.data.toList:=by simpa using e
   have p:g=m:=by
    obtain⟨⟨A⟩⟩:=g;obtain⟨⟨D⟩⟩:=m;simp at e';subst e';rfl
   subst p;have q:(g==g)=true:=by rw [beq_toListBytes];simp
   exact⟨rfl,rfl,fun n=>by cases n<;>simp [Instr.sameBits,q]⟩
 ·simp at h
def tA(g j:TypeId)(k:Value)(ok:Bool)(ents:Array MapEntry):Sem Value:=do
 Instr.checkKey ents.isEmpty 10000 g k
 match<-Instr.findKey g k ents.toList with
 |some (_,v)=>pure (if ok then .tuple #[v,.bool true]else v)
 |none=>do
  let z<-zeroValue j
  pure (if ok then .tuple #[z,.bool false]else z)
theorem uB{d:TypeDesc}{k:IV}(l:VR M k X): ∀{g:List (IV×IV)}{ents:List MapEntry}{r:Option IV}(i:Nat),uW M g ents->fE d k g=some r->
  match r with
  |some v=> ∃j rv,Instr.findNow d X ents i=some (some (j,rv))/\VR M v rv
  |none=>Instr.findNow d X ents i=some none
 | [],ents,r,i,hm,h=>by
  have:ents=[]:=by have:=hm.len;simpa using this.symm
  subst this;simp [fE]at h;subst h;rfl
 | (x,v)::g,ents,r,i,hm,h=>by
  obtain⟨e,q,rfl,k1,y,h2⟩:=hm.uncons;unfold fE at h;split at h
  ·rename_i m;simp at h;subst h;have:=(lH m l k1).1;exact⟨i,e.val,by simp [Instr.findNow,this],y⟩
  ·rename_i m;have:=(lH m l k1).1;have p:=uB l (i+1) h2 h;simpa [Instr.findNow,this]using p
  ·simp at h
theorem rM{P:Program}{d:TypeDesc}{k:IV}{emp:Bool}(j:P.underlying U=some d)(hf:oL d k=true)(g:VR M k X)(w:World)(n:Nat):(Instr.checkKey emp (n+1) U X).run P w= .ok () w:=by
 unfold oL at hf;split at hf
 ·cases g;simp [Instr.checkKey,run_underlying j]
 ·cases g;simp [Instr.checkKey,run_underlying j]
 ·cases g;simp [Instr.checkKey,run_underlying j]
 ·simp at hf
section
variable {E:Env} {o:Oper} {ev:Operand->Option TV} {ρ:Operand->Value} {pb:Nat->Nat}
theorem c0L(a:Inv M h w)(hev: ∀x tv,ev x=some tv->TR M pb tv (ρ x)){tv:TV}(g:dR E o ev h=some tv):
  ∃x r,tv= .v x/\(execOp ρ o).run E.P w= .ok (.value r) w/\VR M x r:=by
 unfold dR at g
 cases hop:o.op with
 |load t ad=>
  simp only [hop]at g;split at g
  case h_2=>simp at g
  rename_i id A ha;split at g
  case h_2=>simp at g
  rename_i cs V;obtain⟨v,h1,h2⟩:=AE.1 g;subst h2;have p:VR M (.ptr id A) (ρ ad):=hev _ _ ha;generalize hρ:ρ ad=ra at p
  cases p with
  | @ptr _ _ b hl=>
   obtain⟨b',rc,O,l2,l3,l4,l5⟩:=a.row V;rw [hl]at O;simp at O;subst O;obtain⟨r,h3,h4⟩:=xS (P:=E.P) l4 l5 h1;exact⟨_,r,rfl,by simp only [execOp,hop,hρ,Instr.loadAt,Instr.sureAddr];exact bY _ _ (by simpa using h3),h4⟩
 |convert s d x=>
  simp only [hop]at g;split at g
  case h_2=>simp at g
  rename_i e id A len hs hd hx;split at g
  case h_2=>simp at g
  rename_i cs he V;split at g
  case isFalse=>simp at g
  rename_i b4;obtain⟨b,h1,h2⟩:=AE.1 g;subst h2;have p:=bD hev hx;generalize hρ:ρ x=ra at p;obtain⟨b',rc,O,l2,l3,l4,l5⟩:=a.row V
  cases p with
  | @hslice _ _ _ _ cap b0 ad hl had hlen=>
   rw [hl]at O;simp at O;subst O;refine⟨_,.string ⟨b.toArray⟩,rfl,?_,b2N b⟩;simp only [execOp,hop,hρ];refine bY _ _ ?_;rw [run_convert_bytes_string w s d e _ _ _ hs he hd];have hc:=(l4.drop A).take len;have D:((rc.toList.take cs.length|>.drop A).take len).length=len:=by simp;omega
   have:=pG (P:=E.P) w (a:=ad) (cap:=cap) hc.1 h1 ?_
   ·rw [D]at this;exact this
   ·rw [D]
    by_cases h0:len=0
    ·subst h0;simp [loadCells,loadCellsFrom]
    ·obtain⟨rfl,_⟩:=had.resolve_left JF;have:=xR (P:=E.P) w (b:=b0) (base:=A) (rc:=(rc.toList.take cs.length|>.drop A).take len) (fun i hi=>by
      have a9:=hi;rw [D]at a9;have:=l5 (A+i) (by simp;omega);simpa using this)
     rw [D]at this;exact this
 |slice t x lo hi mx=>
  simp only [hop]at g;split at g
  case h_2=>simp at g
  rename_i n e id A hu hx;split at g
  case h_2=>simp at g
  rename_i cs sz V b6;split at g
  case isFalse=>simp at g
  rename_i b4;obtain⟨⟨l,k⟩,h1,h2⟩:=AE.1 g;subst h2;have p:VR M (.ptr id A) (ρ x):=hev _ _ hx;generalize hρ:ρ x=ra at p;obtain⟨b',rc,O,l2,l3,l4,l5⟩:=a.row V;obtain⟨i,b1,b2⟩:=dP b6
  cases p with
  | @ptr _ _ b0 hl=>
   rw [hl]at O;simp at O;subst O;obtain⟨c1,c2,c3⟩:=kA (P:=E.P) (isSlice:=false) w (AG n) (xG hev lo) (xG hev hi) h1;have a0:VR M (.hslice id A n (sz+1)) (.slice (some ⟨b0,A,none⟩) n n):= .hslice _ hl (.inr ⟨rfl,rc.size,l2.bsz,JF⟩) (AG n);have a3:=vH a0 c1 c2;refine⟨_,_,rfl,?_,a3⟩;simp only [execOp,hop,hρ];refine bY _ _ ?_;simp only [Instr.sliceAt,AQ,run_underlying hu,AI,Instr.sureAddr,AT,HY,c3,bZ b1,b2,DE];split<;>rfl
 |lookup t x k ok=>
  simp only [hop]at g;split at g
  case h_2=>simp at g
  rename_i kt et m c0 hu hm hk;split at g
  case h_2=>simp at g
  rename_i d es hd G;split at g
  case isFalse=>simp at g
  rename_i b3;have X:=bD hev hm;have a7:=bD hev hk;have a4: ∃ents:Array MapEntry,uW M es ents.toList/\(Instr.lookup t (ρ x) (ρ k) ok).run E.P w=(tA kt et (ρ k) ok ents).run E.P w:=by
   split at G
   ·simp at G;subst G;generalize ρ x=rx at X
    cases X
    exact⟨#[],⟨cO.nil _,cO.nil _⟩,by simp [Instr.lookup,tA,run_underlying hu];rfl⟩
   ·rename_i id;split at G
    case h_2=>simp at G
    rename_i es' V;simp at G;subst G;generalize ρ x=rx at X
    cases X with
    | @map _ b hl=>
     obtain⟨b',ents,clock,g1,g2,g3,_⟩:=a.maps id es' V;rw [hl]at g1;simp at g1;subst g1;refine⟨ents,g3,?_⟩;have a8:(getObj b).run E.P w= .ok (.map ents clock) w:=by simp [getObj,Sem.run,g2]
     simp [Instr.lookup,tA,run_underlying hu,a8];rfl
   ·simp at G
  obtain⟨ents,b5,Z⟩:=a4;have a2:=fun emp=>rM (M:=M) (emp:=emp) hd b3 a7 w 9999
  have Y: ∀{q:Option IV}{a1:TV},fE d c0 es=some q->(match q with
    |some v=>some (TV.v (if ok then .tuple [v,.bool true]else v))
    |none=>(dD E.P et).map fun z=>TV.v (if ok then .tuple [z,.bool false]else z))=some a1-> ∃v r,a1= .v v/\(execOp ρ o).run E.P w= .ok (.value r) w/\VR M v r:=by
   intro q a1 hf L;have a5:=uB a7 0 b5 hf
   cases q with
   |some v=>
    obtain⟨j,rv,f1,f2⟩:=a5;simp at L;subst L;refine⟨_,if ok then .tuple #[rv,.bool true]else rv,rfl,?_,?_⟩
    ·simp only [execOp,hop];refine bY _ _ ?_;rw [Z];simp only [tA,AQ,AI,a2,Instr.findKey,run_underlying hd,f1,AT]
    ·cases ok
     ·simpa using f2
     ·simpa using dW (cO.cons f2 (cO.cons (.bool true) (cO.nil M)))
   |none=>
    obtain⟨z,hz,b9⟩:=AE.1 L;subst b9;obtain⟨i,r,z1,z2,z3,z4⟩:=eS (M:=M) hz;refine⟨_,if ok then .tuple #[r,.bool false]else r,rfl,?_,?_⟩
    ·simp only [execOp,hop];refine bY _ _ ?_;rw [Z];have a6:Instr.findNow d (ρ k) ents.toList 0=some none:=a5;simp only [tA,AQ,AI,a2,Instr.findKey,run_underlying hd,a6,AT,cG w z1 z2]
    ·cases ok
     ·simpa using z3
     ·simpa using dW (cO.cons z3 (cO.cons (.bool false) (cO.nil M)))
  split at g
  ·rename_i v hf;exact Y hf g
  ·rename_i hf;exact Y hf g
  ·simp at g
 |call c=>
  obtain⟨R,args,K⟩:=c;simp only [hop]at g
  cases R with
  |value x=>simp at g
  |invoke x n=>simp at g
  |builtin b=>
   cases b
   case len=>
    simp only at g;split at g
    case h_2=>simp at g
    rename_i t id ht hx;obtain⟨y,hy,b7⟩:=CH.1 hx;have p:=bD hev b7;split at g
    case h_2=>simp at g
    rename_i kt et es hu V;simp at g;subst g;generalize hρ:ρ y=ra at p
    cases p with
    | @map _ b hl=>
     obtain⟨b',ents,clock,g1,g2,g3,_⟩:=a.maps id es V;rw [hl]at g1;simp at g1;subst g1;refine⟨_,goInt ents.size,rfl,?_,?_⟩
     ·simp only [execOp,hop,resolve,invoke,AQ,AT,AI,builtin];have:(Builtin.len_ K o.type (args.map ρ)).run E.P w= .ok (goInt ents.size) w:=by
       simp [Builtin.len_,ht,hy,hρ,run_underlying hu,getObj,Sem.run,g2]
      simp [this]
     ·have:=g3.len;simp at this;rw [this];exact .int _ _
   all_goals simp at g
 |_=>simp [hop]at g
end
end
section
variable {M:Meta} {h:Heap} {w w':World}
theorem gV(n:Nat)(z:Y14):(dY n z).length=n*z.length:=by
 induction n with
 |zero=>simp [dY]
 |succ n ih=>simp only [dY,AJ,ih,CU];omega
theorem R6(z:Y14)(h0:0<z.length): ∀(n i:Nat),i<n*z.length->(dY n z)[i]?=z[i%z.length]?
 |0,i,hi=>JF
 |n+1,i,hi=>by
  rw [CU]at hi;simp only [dY]
  by_cases hlt:i<z.length
  ·rw [BJ hlt,Nat.mod_eq_of_lt hlt]
  ·rw [BA JF,R6 z h0 n (i-z.length) JF];rw [Nat.mod_eq_sub_mod (by omega:i>=z.length)]
theorem yF{z:Y14}(p:eG M z H.toList)(h0:0<z.length)(n:Nat):
  eG M (dY n z) ((Array.range (n*z.length)).map (H[· %H.size]!)).toList:=by
 have m:H.size=z.length:=by have:=p.len;simpa using this.symm
 refine⟨⟨by simp [gV],fun i h1 h2=>?_⟩,fun i h1=>?_⟩
 ·rw [gV]at h1;have j:=HM i h0;have g:(dY n z)[i]?=z[i%z.length]?:=R6 z h0 n i h1;rw [AA (by rw [gV];exact h1),AA j]at g;simp only [AB]at g;rw [g];have:=p.1.2 (i%z.length) j (by simp [m];exact j);simpa [m,getElem!_pos,j]using this
 ·have l:=h1;rw [gV]at l;have j:=HM i h0;have g:(dY n z)[i]?=z[i%z.length]?:=R6 z h0 n i l;rw [AA h1,AA j]at g;simp only [AB]at g;rw [g];exact p.2 _ j
theorem mZ{t:TypeId}{z:IV}{i:TypeInfo}{P:Program}(j:dD P t=some z)(g:P.info? t=some i): ∃r,i.zero=some r/\eG M (cellsOf z) r.cells.toList:=by
 obtain⟨l,r,h1,h2,h3,h4⟩:=eS (M:=M) j;rw [g]at h1;simp at h1;subst h1;exact⟨r,h2,kI h3 h4⟩
theorem wB(f g:Nat->Value):(Array.range 0).map f=(Array.range 0).map g:=JH
theorem sO{P:Program}(w:World){t e:TypeId}{n sz:Nat}{z:IV}{ps:List (Nat×IV)}{g:Array (Nat×Value)}{cs:Y14}(hu:P.underlying t=some (.slice e))(O:gP P e=some (sz+1))
  (hz:dD P e=some z) (hn:n*(sz+1)<=16777216) (hzl:(cellsOf z).length=sz+1) (hp:PR M ps g.toList) (h1:oK (fun i=>some (i*(sz+1),sz+1)) (dY n (cellsOf z)) ps=some cs):
  ∃A:Array Value,(Instr.buildSlice t n g).run P w= .ok (.slice (some ⟨w.heap.size,0,none⟩) n n) (w.alloc (.cells A e))/\eG M cs A.toList/\cs.length=n*(sz+1):=by
 obtain⟨i,r,L⟩:=dP O;obtain⟨X,R,V⟩:=mZ (M:=M) hz r;have q:=yF V JF n;rw [hzl]at q;obtain⟨A,D,Y⟩:=xK hp q h1;have K:cs.length=n*(sz+1):=by
  have: ∀{j:Nat->Option (Nat×Nat)}{ps:List (Nat×IV)}{c m:Y14},oK j c ps=some m->m.length=c.length:=by
   intro j ps
   induction ps with
   |nil=>intro c m l;simp [oK]at l;rw [l]
   |cons p ps ih=>
    intro c m l;obtain⟨pi,pv⟩:=p;unfold oK at l;split at l
    ·simp at l
    ·split at l
     ·rename_i Z;rw [ih l];simp [spl];omega
     ·simp at l
  rw [this h1,gV,hzl]
 refine⟨A,?_,Y,K⟩;have y:i.size=sz+1:=L;simp only [Instr.buildSlice,AQ,run_underlying hu,AI,bZ r,y];rw [if_neg JF]
 by_cases hn0:n*(sz+1)=0
 ·rw [hn0]at D;rw [if_pos hn0];have G:Instr.fill (fun i=>some (i*(sz+1),sz+1)) ((Array.range (n*(sz+1))).map fun x=>(#[]:Array Value)[x% (#[]:Array Value).size]!) g.toList=some A:=by
   rw [hn0,wB _ (fun x=>X.cells[x%X.cells.size]!)];exact D
  simp only [AQ,AT,AI];rw [G];simp only [Go.newRow,AQ,run_newObj,AI,AT];rfl
 ·rw [if_neg hn0];simp only [AQ,AT,AI,cG w r R];rw [D];simp only [Go.newRow,AQ,run_newObj,AI,AT];rfl
theorem pQ(a:Inv M h w)(j:Nat){len sz cap:Nat}{cs:Y14}{rc:Array Value}{fz:Nat×Nat}(m:NewBlk w w' (.cells rc U fz))(hf:fz.2<=fz.1\/rc.size<=fz.1)(l:cs.length=len*sz)(g:len<=cap)
  (hcap:cap*sz<=rc.size) (hc:eG M cs (rc.toList.take cs.length)):
  ∃M',Inv M' (newRow h j len sz cs).2 w'/\Pres w.heap.size M h w M' (newRow h j len sz cs).2 w'/\VR M' (newRow h j len sz cs).1 (.slice (some ⟨w.heap.size,0,none⟩) len cap):=by
 unfold newRow
 split
 ·exact b9O a m hf l g hcap hc
 ·obtain⟨M',h1,h2,h3,h4⟩:=B2 a m hf (by rw [l];exact CW (BZ _ g) hcap) hc;exact⟨M',h1,h2,.hslice _ h3 (.inr ⟨rfl,rc.size,h4,JF⟩) g⟩
theorem sP(w:World)(x:Obj):NewBlk w (w.drew.alloc x) x where
 new:=by show(w.heap.push x)[w.heap.size]?=_;simp
 old:=fun b g=>by show(w.heap.push x)[b]?=_;rw [FO,if_neg JF]
 size:=JH
 os:=rfl
 tape:=rfl
 output:=rfl
theorem Fq{P:Program}(a:Inv M h w){sz n:Nat}{x:IV}{xs:Y14}{r:Value}(Z:VR M x r)(l:fX h sz x=some (n,xs)):
  xs.length=n*sz/\(∀w':World,(Builtin.lenOf r).run P w'= .ok n w')/\(∀i (R:i<xs.length),isCell xs[i]=true)/\
  ∀m,m<=n-> ∃news:List Value,eG M (xs.take (m*sz)) news/\news.length=m*sz/\(Builtin.firstCells sz m r).run P w= .ok news.toArray w/\(Builtin.firstCells sz m r).run P w.drew= .ok news.toArray w.drew:=by
 unfold fX at l;split at l
 ·simp at l;obtain⟨rfl,rfl⟩:=l
  cases Z
  refine⟨JH,fun _=>rfl,fun i R=>by simp at R,fun m L=>?_⟩;have:m=0:=JF;subst this;exact⟨[],by simpa using eG.nil M,JH,run_firstCells_none w _ _ _ _,run_firstCells_none w.drew _ _ _ _⟩
 ·split at l
  case isFalse=>simp at l
  rename_i Y;subst Y;simp at l;obtain⟨rfl,rfl⟩:=l
  cases Z with
  |vnil=>
   refine⟨JH,fun _=>rfl,fun i R=>by simp at R,fun m L=>?_⟩;have:m=0:=JF;subst this;exact⟨[],by simpa using eG.nil M,JH,run_firstCells_none w _ _ _ _,run_firstCells_none w.drew _ _ _ _⟩
  | @vslice _ _ _ _ cap _ ad rv hn hlen ha him hv hc ht hf=>
   refine⟨hn,fun _=>rfl,hc,fun m L=>?_⟩;rename_i id e len z cs;have a4:m*z<=len*z:=BZ _ L;have G:eG M cs ((List.range cs.length).map rv):=⟨⟨JH,fun i p q=>by simpa using hv i p⟩,hc⟩;have g: ∀j v,(((List.range cs.length).map rv).take (m*z))[j]?=some v->w.cell? (ad.add j)=some v:=by
    intro j v A;rw [DG]at A;split at A
    ·rename_i a0;obtain⟨h1,h2⟩:=AP.1 A;simp at h1 h2;have O:cap≠0:=by
      intro e;have:len=0:=JF;subst this;simp at hn;omega
     obtain⟨X,_⟩:=ha.resolve_left O;obtain⟨ab,ao,a5⟩:=ad;simp only at X;subst X;rw [dG,<-h2];exact a.im _ _ _ (him j h1)
    ·simp at A
   have V:(((List.range cs.length).map rv).take (m*z)).length=m*z:=by simp;omega
   exact⟨_,G.take _,V,run_firstCells_some w z m ad len cap _ V g,run_firstCells_some w.drew z m ad len cap _ V (by simpa using g)⟩
 ·split at l
  case isFalse=>simp at l
  rename_i Y;subst Y;split at l
  case h_2=>simp at l
  rename_i cs hg;split at l
  case isFalse=>simp at l
  rename_i a6;simp at l;obtain⟨rfl,rfl⟩:=l;rename_i id y len z _;obtain⟨b',rc,l1,l2,l3,l4,l5⟩:=a.row hg
  cases Z with
  | @hslice _ _ _ _ cap b ad V had hlen=>
   rw [V]at l1;simp at l1;subst l1;have a3:((cs.drop y).take (len*z)).length=len*z:=by simp;omega
   refine⟨a3,fun _=>rfl,((l4.drop y).take _).2,fun m L=>?_⟩;have a4:m*z<=len*z:=BZ _ L;have g: ∀j v,((((rc.toList.take cs.length).drop y).take (len*z)).take (m*z))[j]?=some v->w.cell? (ad.add j)=some v:=by
    intro j v A;rw [DG]at A;split at A
    ·rename_i a0;obtain⟨a1,a2⟩:=nG _ _ _ _ _ A;have O:cap≠0:=by
      intro e;have:len=0:=JF;subst this;simp at a1
     obtain⟨rfl,_⟩:=had.resolve_left O;rw [dG];obtain⟨q1,q2⟩:=AP.1 a2;have:=l5 (y+j) q1;rw [q2]at this;simpa using this
    ·simp at A
   have K:((((rc.toList.take cs.length).drop y).take (len*z)).take (m*z)).length=m*z:=by simp;omega
   exact⟨_,((l4.drop y).take _).take _,K,run_firstCells_some w z m ad len cap _ K g,run_firstCells_some w.drew z m ad len cap _ K (by simpa using g)⟩
 ·split at l
  case isFalse=>simp at l
  rename_i Y;subst Y;simp at l;obtain⟨rfl,rfl⟩:=l
  cases Z with
  |str s=>
   refine⟨JH,fun _=>by simp [Builtin.lenOf],fun i R=>by simp [isCell],fun m L=>?_⟩;simp only [ER]at L;have G:eG M (s.data.toList.map fun b=>IV.int .u8 b.toNat) (s.data.toList.map fun b=>Value.int .u8 b.toNat):=
    ⟨⟨JH,fun i p q=>by simpa using VR.int _ _⟩,fun i p=>by simp [isCell]⟩
   have D: ∀w':World,(Builtin.firstCells 1 m (.string s)).run P w'= .ok ((s.data.toList.map fun b=>Value.int .u8 b.toNat).take (m*1)).toArray w':=by
    intro w';simp only [Builtin.firstCells,AT]
    congr 1
    apply EN;simp [ByteArray.data_extract,FQ]
   exact⟨_,G.take _,by have e:s.size=s.data.size:=rfl;simp;omega,D w,D w.drew⟩
 ·simp at l
theorem Xs{P:Program}(a:Inv M h w){sz n:Nat}{x:IV}{xs:Y14}{r:Value}{m:TypeDesc}(p:P.underlying U=some m)(j:mR m=true)(y:VR M x r)(q:fX h sz x=some (n,xs)):
  ∃g:List Value,eG M xs g/\Src P sz U r n g w:=by
 obtain⟨h1,h2,h3,h4⟩:=Fq (P:=P) a y q;obtain⟨g,l,z,A,D⟩:=h4 n (AG _);rw [AM JF]at l;refine⟨g,l,⟨?_,h2,A,D,z,l.one⟩⟩;unfold mR at j;split at j
 ·exact .inl ⟨_,p⟩
 ·exact .inr p
 ·simp at j
end
end Go.Pv
end
section
namespace Go.Pv
open Go
def nM(h:Heap)(n g len sz:Nat)(cs:Y14):IV×Heap:=(wI n g len sz cs,h.set n (rK g len sz cs))
theorem E5{M:Meta}{h:Heap}{w w':World}(a:Inv M h w){n:Nat}(l:h.get n= .free)(j:Nat){len sz cap:Nat}{cs:Y14}(h0:j=0->0<cs.length){rc:Array Value}{fz:Nat×Nat}(p:NewBlk w w' (.cells rc U fz))(hf:fz.2<=fz.1\/rc.size<=fz.1)(m:cs.length=len*sz)(g:len<=cap)
  (hcap:cap*sz<=rc.size) (hc:eG M cs (rc.toList.take cs.length)):
  ∃M',Inv M' (nM h n j len sz cs).2 w'/\Pres w.heap.size M h w M' (nM h n j len sz cs).2 w'/\VR M' (nM h n j len sz cs).1 (.slice (some ⟨w.heap.size,0,none⟩) len cap):=by
 unfold nM wI rK
 by_cases hw:j=0
 ·simp only [if_pos hw];exact b9F a l p hf m (h0 hw) g hcap hc
 ·simp only [if_neg hw];obtain⟨M',h1,h2,h3,h4⟩:=Ab a l p hf (by rw [m];exact CW (BZ _ g) hcap) hc;exact⟨M',h1,h2,.hslice _ h3 (.inr ⟨rfl,rc.size,h4,JF⟩) g⟩
theorem Inv.free1{M:Meta}{h:Heap}{w:World}(a:Inv M h w): ∃M',Inv M' (h.push .free) w/\Pres w.heap.size M h w M' (h.push .free) w:=by
 let M':Meta:= {M with nid:=M.nid+1,tip:=fun i=>if i=h.next then 0 else M.tip i }
 have y:Ext M M':=⟨by simp [M'],fun _ _ x=>x,fun _ _ _ x=>x,fun _ _ x=>x,fun i p=>by
  simp only [M'];rw [if_neg (by have:=a.nid;omega)];exact AG _,fun i p _=>rfl⟩
 have m: ∀j,(h.push .free).get j=if j=h.next then .free else h.get j:=fun j=>Heap.get_push h j .free
 have g: ∀{b rc},Blk M w b rc->Blk M' w b rc:=fun l=>⟨l.at_,l.free,l.bsz⟩
 have r: ∀j,Wb M' (h.push .free) j=Wb M h j:=fun j=>by
  by_cases e:j=h.next
  ·subst e;simp [Wb,m,a.fresh h.next (AG _)]
  ·simp only [Wb,m,if_neg e,M']
 refine⟨M',?_,⟨y,AG _,rfl,rfl,rfl,fun b L K=>⟨rfl,?_,fun _=>rfl⟩⟩⟩
 ·exact {
   nid:=by show M.nid+1=_;rw [a.nid,Heap.next_push]
   fresh:=fun id q=>by
    rw [Heap.next_push]at q;rw [m,if_neg JF];exact a.fresh id JF
   freshl:=fun id q=>by
    rw [Heap.next_push]at q;exact a.freshl id JF
   cells:=fun id cs e=>by
    rw [m]at e;split at e
    ·simp at e
    ·obtain⟨b,rc,h1,h2,h3,h4,G⟩:=a.cells id cs e;exact⟨b,rc,h1,g h2,h3,h4.mono y,G⟩
   tips:=fun id k e=>by
    rw [m]at e;split at e
    ·simp at e
    ·rename_i p;obtain⟨h0,b,e',rc,h1,h2,h3⟩:=a.tips id k e;exact⟨by simp only [M'];rw [if_neg p];exact h0,b,e',rc,h1,g h2,h3⟩
   maps:=fun id D e=>by
    rw [m]at e;split at e
    ·simp at e
    ·obtain⟨b,ents,A,h1,h2,h3⟩:=a.maps id D e;exact⟨b,ents,A,h1,h2,h3.1.mono y,h3.2⟩
   im:=a.im
   bsz:=a.bsz
   one:=fun id z b e e'=>by
    rw [r]at e e';exact a.one id z b e e'
   resv:=fun id e=>by
    rw [m]at e;split at e
    ·rename_i p;subst p;exact⟨a.freshl _ (AG _),by simp [M']⟩
    ·rename_i p;simp only [M'];rw [if_neg p];exact a.resv id e }
 ·rintro⟨id,e⟩;rw [r]at e;exact K ⟨id,e⟩
theorem Inv.reserve{M:Meta}{h:Heap}{w:World}(a:Inv M h w): ∀k,∃M',Inv M' (h.reserve k) w/\Pres w.heap.size M h w M' (h.reserve k) w
 |0=>⟨M,a,Pres.refl _ _ _ _⟩
 |k+1=>by
  obtain⟨m,j,l⟩:=a.reserve k;obtain⟨g,c1,c2⟩:=j.free1;exact⟨g,c1,l.trans c2⟩
end Go.Pv
end
end
