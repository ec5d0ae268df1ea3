/-
  Texts of this proof, one after the other.
  Conditions: none.
-/
import Derived.Test.YtkonebkblgemkaaGreatZ1
set_option linter.unusedVariables false
set_option linter.unusedSimpArgs false
set_option maxRecDepth 100000
set_option maxHeartbeats 4000000
noncomputable section
section
namespace Go.Pv
namespace PT
variable {α:Type}
theorem d3F(n:Nat): ∀(t:PT α)(k j:Nat)(x:Option α),k<n->(a6P n t k x).get j=if j=k then x else t.get j:=by
 induction n with
 |zero=>intro t k j x h;omega
 |succ n ih=>
  intro t k j x h;have hl: ∀j,j%2=1->t.get j=t.left.get ((j-1)/2):=by
   intro j hj
   cases t with
   |nil=>rfl
   |node l v r=>simp [get,left,show j≠0 by omega,hj]
  have hr: ∀j,j≠0->j%2=0->t.get j=t.right.get ((j-2)/2):=by
   intro j h0 hj
   cases t with
   |nil=>rfl
   |node l v r=>simp [get,right,h0,hj]
  have hv:t.get 0=t.val:=by
   cases t with
   |nil=>rfl
   |node l v r=>simp [get,val]
  unfold a6P
  by_cases hk:k=0
  ·subst hk;simp only [if_true,get]
   by_cases hj:j=0
   ·simp [hj]
   ·by_cases hj2:j%2=1
    ·simp [hj,hj2,hl j hj2]
    ·simp [hj,hj2,hr j hj (by omega)]
  ·rw [if_neg hk]
   by_cases hk2:k%2=1
   ·rw [if_pos hk2];simp only [get]
    by_cases hj:j=0
    ·subst hj;simp [hv,show¬ (0=k) by omega]
    ·rw [if_neg hj]
     by_cases hj2:j%2=1
     ·rw [if_pos hj2,ih _ _ _ _ (by omega),hl j hj2]
      by_cases e:j=k
      ·simp [e]
      ·rw [if_neg (by omega),if_neg e]
     ·rw [if_neg hj2,if_neg (by omega),hr j hj (by omega)]
   ·rw [if_neg hk2];simp only [get]
    by_cases hj:j=0
    ·subst hj;simp [hv,show¬ (0=k) by omega]
    ·rw [if_neg hj]
     by_cases hj2:j%2=1
     ·rw [if_pos hj2,if_neg (by omega),hl j hj2]
     ·rw [if_neg hj2,ih _ _ _ _ (by omega),hr j hj (by omega)]
      by_cases e:j=k
      ·simp [e]
      ·rw [if_neg (by omega),if_neg e]
theorem get_set(t:PT α)(k j:Nat)(x:Option α):(t.set k x).get j=if j=k then x else t.get j:=d3F _ _ _ _ _ (by omega)
theorem get_filt(f:α->Bool): ∀(t:PT α)(j:Nat),(t.filt f).get j=match t.get j with|some x=>if f x then some x else none|none=>none
 |nil,j=>rfl
 |node l v r,j=>by
  unfold filt get
  by_cases hj:j=0
  ·simp only [hj,if_true];cases v<;>rfl
  ·by_cases hj2:j%2=1
   ·simp [hj,hj2,get_filt f l]
   ·simp [hj,hj2,get_filt f r]
theorem yQ: ∀(n m:Nat)(t:PT α)(j k:Nat)(x y:Option α),j≠k->a6P n (a6P m t j x) k y=a6P m (a6P n t k y) j x
 |0,m,t,j,k,x,y,_=>by cases m<;>rfl
 |n+1,0,t,j,k,x,y,_=>rfl
 |n+1,m+1,t,j,k,x,y,hjk=>by
  simp only [a6P]
  by_cases hj:j=0
  ·have hk:k≠0:=fun e=>hjk (by omega)
   by_cases hk2:k%2=1<;>simp [hj,hk,hk2,left,right,val]
  ·by_cases hk:k=0
   ·by_cases hj2:j%2=1<;>simp [hj,hk,hj2,left,right,val]
   ·by_cases hj2:j%2=1<;>by_cases hk2:k%2=1<;>simp [hj,hk,hj2,hk2,left,right,val]
    ·exact yQ n m _ _ _ _ _ (by omega)
    ·exact yQ n m _ _ _ _ _ (by omega)
theorem set_comm(t:PT α){j k:Nat}(x y:Option α)(h:j≠k):(t.set j x).set k y=(t.set k y).set j x:=yQ _ _ _ _ _ _ _ h
end PT
theorem Heap.set_comm(h:Heap){j k:Nat}(x y:IObj)(e:j≠k):(h.set j x).set k y=(h.set k y).set j x:=by
 simp only [Heap.set,PT.set_comm _ _ _ e]
theorem Heap.get_set(h:Heap)(id j:Nat)(x:IObj):(h.set id x).get j=if j=id then x else h.get j:=by
 simp only [Heap.get,Heap.set,PT.get_set];split<;>rfl
theorem Heap.get_push(h:Heap)(j:Nat)(x:IObj):(h.push x).get j=if j=h.next then x else h.get j:=by
 simp only [Heap.get,Heap.push,PT.get_set];split<;>rfl
theorem Heap.next_set(h:Heap)(id:Nat)(x:IObj):(h.set id x).next=h.next:=rfl
theorem Heap.next_push(h:Heap)(x:IObj):(h.push x).next=h.next+1:=rfl
structure Blk(M:Meta)(w:World)(b:Nat)(rc:Array Value):Prop where
 at_: ∃el fz,w.heap[b]?=some (.cells rc el fz)
 free: ∀i,i<rc.size->w.frozen? ⟨b,i,none⟩=false
 bsz:M.bsz b=some rc.size
def Brn(ents:Array MapEntry)(clock:Nat):Prop:=clock=ents.size/\∀(j:Nat)(e:MapEntry),ents[j]?=some e->e.born=j
theorem Brn.nil:Brn #[] 0:=⟨rfl,fun j e h=>by simp at h⟩
theorem Brn.push{ents:Array MapEntry}{clock:Nat}(b:Brn ents clock)(k v:Value):Brn (ents.push {key:=k,val:=v,born:=clock }) (clock+1):=by
 obtain⟨h1,h2⟩:=b;refine⟨by simp [h1],fun j e h=>?_⟩;rw [h5V]at h;split at h
 ·rename_i hj;simp only [h0V]at h;rw [<-h,hj];exact h1
 ·exact h2 j e h
theorem Brn.modify{ents:Array MapEntry}{clock:Nat}(b:Brn ents clock)(i:Nat)(g:MapEntry->MapEntry)(hg: ∀e,(g e).born=e.born):Brn (ents.modify i g) clock:=by
 obtain⟨h1,h2⟩:=b;refine⟨by simp [h1],fun j e h=>?_⟩;rw [h3W]at h;split at h
 ·obtain⟨x,q1,q2⟩:=h0W.1 h;rw [<-q2,hg];exact h2 j x q1
 ·exact h2 j e h
def uF(M:Meta)(es:List (IV×IV))(ents:List MapEntry):Prop:=cW M (es.map (·.1)) (ents.map (·.key))/\cW M (es.map (·.2)) (ents.map (·.val))
def Wb(M:Meta)(h:Heap)(id:Nat):Option Nat:=
 match h.get id with
 | .cells _=>M.loc id
 | .map _=>M.loc id
 | .tip _=>some (M.cur id).1
 | .dead=>none
 | .free=>none
def Wr(M:Meta)(h:Heap)(b:Nat):Prop:= ∃id,Wb M h id=some b
structure Inv(M:Meta)(h:Heap)(w:World):Prop where
 nid:M.nid=h.next
 fresh: ∀id,h.next<=id->h.get id= .dead
 freshl: ∀id,h.next<=id->M.loc id=none
 cells: ∀id cs,h.get id= .cells cs-> ∃b rc,M.loc id=some b/\Blk M w b rc/\cs.length<=rc.size/\eB M cs (rc.toList.take cs.length)/\∀o,M.im b o=none
 tips: ∀id n,h.get id= .tip n->M.tip id=n/\∃b e rc,M.cur id=(b,e)/\Blk M w b rc/\e<=rc.size/\∀o,e<=o->M.im b o=none
 maps: ∀id es,h.get id= .map es-> ∃b ents clock,M.loc id=some b/\w.heap[b]?=some (.map ents clock)/\uF M es ents.toList/\Brn ents clock
 im: ∀b o v,M.im b o=some v->w.cell? ⟨b,o,none⟩=some v
 bsz: ∀b n,M.bsz b=some n->b<w.heap.size
 one: ∀id id' b,Wb M h id=some b->Wb M h id'=some b->id=id'
 resv: ∀id,h.get id= .free->M.loc id=none/\M.tip id=0
structure Pres(B:Nat)(M:Meta)(h:Heap)(w:World)(M':Meta)(h':Heap)(w':World):Prop where
 ext:Ext M M'
 size:w.heap.size<=w'.heap.size
 os:w'.os=w.os
 tape:w'.tape=w.tape
 output:w'.output=w.output
 keep: ∀b,b<B-> ¬Wr M h b->w'.heap[b]?=w.heap[b]?/\¬Wr M' h' b/\∀o,M'.im b o=M.im b o
theorem Pres.refl(B:Nat)(M:Meta)(h:Heap)(w:World):Pres B M h w M h w:=⟨Ext.refl M,h1D _,rfl,rfl,rfl,fun _ _ hn=>⟨rfl,hn,fun _=>rfl⟩⟩
theorem Pres.trans{B:Nat}{M1 M2 M3:Meta}{h1 h2 h3:Heap}{w1 w2 w3:World}(a:Pres B M1 h1 w1 M2 h2 w2)(b:Pres B M2 h2 w2 M3 h3 w3):Pres B M1 h1 w1 M3 h3 w3 where
 ext:=a.ext.trans b.ext
 size:=h2F a.size b.size
 os:=b.os.trans a.os
 tape:=b.tape.trans a.tape
 output:=b.output.trans a.output
 keep:=fun k hk hn=>by
  obtain⟨p1,p2,p3⟩:=a.keep k hk hn;obtain⟨q1,q2,q3⟩:=b.keep k hk p2;exact⟨q1.trans p1,q2,fun o=>(q3 o).trans (p3 o)⟩
theorem Pres.mono{B B':Nat}{M M':Meta}{h h':Heap}{w w':World}(a:Pres B M h w M' h' w')(hB:B'<=B):Pres B' M h w M' h' w':=
 {a with keep:=fun k hk hn=>a.keep k (h1C hk hB) hn }
theorem Inv.drew{M:Meta}{h:Heap}{w:World}(a:Inv M h w):Inv M h w.drew where
 nid:=a.nid
 fresh:=a.fresh
 freshl:=a.freshl
 cells:=fun id cs e=>by
  obtain⟨b,rc,h1,h2,h3⟩:=a.cells id cs e;exact⟨b,rc,h1,⟨h2.at_,h2.free,h2.bsz⟩,h3⟩
 tips:=fun id n e=>by
  obtain⟨h0,b,e',rc,h1,h2,h3⟩:=a.tips id n e;exact⟨h0,b,e',rc,h1,⟨h2.at_,h2.free,h2.bsz⟩,h3⟩
 maps:=a.maps
 im:=a.im
 bsz:=a.bsz
 one:=a.one
 resv:=a.resv
theorem uF.mono{M M':Meta}(hE:Ext M M'){es:List (IV×IV)}{ents:List MapEntry}(h:uF M es ents):uF M' es ents:=⟨h.1.mono hE,h.2.mono hE⟩
theorem lA{w w':World}{b b' i:Nat}(h:w'.heap[b']?=w.heap[b]?):w'.frozen? ⟨b',i,none⟩=w.frozen? ⟨b,i,none⟩:=by
 simp only [World.frozen?,h]
theorem oD{w w':World}{b i:Nat}(h:w'.heap[b]?=w.heap[b]?):w'.cell? ⟨b,i,none⟩=w.cell? ⟨b,i,none⟩:=by
 simp only [World.cell?,h]
theorem cL{w:World}{b:Nat}{o:Obj}(h:w.heap[b]?=some o):b<w.heap.size:=by
 obtain⟨hb,_⟩:=h7I.1 h;exact hb
theorem Blk.lt{M:Meta}{w:World}{b:Nat}{rc:Array Value}(h:Blk M w b rc):b<w.heap.size:=by
 obtain⟨el,fz,h⟩:=h.at_;exact cL h
theorem Blk.keep{M M':Meta}{w w':World}{b:Nat}{rc:Array Value}(h:Blk M w b rc)(hb:w'.heap[b]?=w.heap[b]?)(hs:M'.bsz b=M.bsz b):Blk M' w' b rc:=by
 obtain⟨el,fz,h1⟩:=h.at_;exact⟨⟨el,fz,hb.trans h1⟩,fun i hi=>(lA hb).trans (h.free i hi),hs.trans h.bsz⟩
theorem Inv.wb_lt{M:Meta}{h:Heap}{w:World}(a:Inv M h w){id b:Nat}(e:Wb M h id=some b):b<w.heap.size:=by
 unfold Wb at e
 cases hg:h.get id with
 |cells cs=>
  obtain⟨b',rc,h1,h2,_⟩:=a.cells id cs hg;simp [hg]at e;rw [h1]at e;simp at e;subst e;exact h2.lt
 |free=>simp [hg]at e
 |map es=>
  obtain⟨b',ents,c,h1,h2,_⟩:=a.maps id es hg;simp [hg]at e;rw [h1]at e;simp at e;subst e;exact cL h2
 |tip n=>
  obtain⟨_,b',e',rc,h1,h2,_⟩:=a.tips id n hg;simp [hg]at e;rw [h1]at e;simp at e;subst e;exact h2.lt
 |dead=>simp [hg]at e
structure NewBlk(w w':World)(o:Obj):Prop where
 new:w'.heap[w.heap.size]?=some o
 old: ∀b,b<w.heap.size->w'.heap[b]?=w.heap[b]?
 size:w'.heap.size=w.heap.size+1
 os:w'.os=w.os
 tape:w'.tape=w.tape
 output:w'.output=w.output
theorem NewBlk.alloc(w:World)(o:Obj):NewBlk w (w.alloc o) o where
 new:=by show(w.heap.push o)[w.heap.size]?=_;simp
 old:=fun b hb=>by show(w.heap.push o)[b]?=_;rw [h5V,if_neg (by omega)]
 size:=by simp
 os:=rfl
 tape:=rfl
 output:=rfl
structure Fresh1(M M':Meta)(h:Heap)(w:World):Prop where
 loc: ∀i,i≠h.next->M'.loc i=M.loc i
 tip: ∀i,i≠h.next->M'.tip i=M.tip i
 cur: ∀i,i≠h.next->M'.cur i=M.cur i
 im: ∀b o,b≠w.heap.size->M'.im b o=M.im b o
 bsz: ∀b,b≠w.heap.size->M'.bsz b=M.bsz b
 nid:M'.nid=M.nid+1
theorem Fresh1.wb{M M':Meta}{h:Heap}{w:World}{x:IObj}(f:Fresh1 M M' h w){id:Nat}(hi:id≠h.next):Wb M' (h.push x) id=Wb M h id:=by
 have hg:(h.push x).get id=h.get id:=by rw [Heap.get_push,if_neg hi]
 simp only [Wb,hg,f.loc id hi,f.cur id hi]
section
variable {M:Meta} {h:Heap} {w w':World} (a:Inv M h w)
include a
theorem Inv.im_lt{b o:Nat}{v:Value}(e:M.im b o=some v):b<w.heap.size:=by
 have:=a.im b o v e;unfold World.cell? at this;split at this
 ·rename_i c _ _ hb;exact cL hb
 ·simp at this
theorem Fresh1.ext{M':Meta}(f:Fresh1 M M' h w):Ext M M' where
 nid:=by have:=f.nid;omega
 loc:=fun id b e=>by
  by_cases hi:id=h.next
  ·have:=a.freshl id (by omega);rw [this]at e;simp at e
  ·rw [f.loc id hi];exact e
 im:=fun b o v e=>by rw [f.im b o (by have:=a.im_lt e;omega)];exact e
 bsz:=fun b n e=>by rw [f.bsz b (by have:=a.bsz b n e;omega)];exact e
 tip:=fun i hi=>by rw [f.tip i (by have:=a.nid;omega)];exact h1D _
 cur:=fun i hi _=>by rw [f.cur i (by have:=a.nid;omega)]
theorem Fresh1.inv{M':Meta}{x:IObj}{o:Obj}(f:Fresh1 M M' h w)(nb:NewBlk w w' o)
  (hlt: ∀i,h.next<i->M'.loc i=none) (hwb:Wb M' (h.push x) h.next=some w.heap.size)
  (him: ∀off v,M'.im w.heap.size off=some v->w'.cell? ⟨w.heap.size,off,none⟩=some v)
  (hc: ∀cs,x= .cells cs-> ∃rc,M'.loc h.next=some w.heap.size/\Blk M' w' w.heap.size rc/\cs.length<=rc.size/\eB M' cs (rc.toList.take cs.length)/\∀off,M'.im w.heap.size off=none)
  (ht: ∀n,x= .tip n->M'.tip h.next=n/\∃e rc,M'.cur h.next=(w.heap.size,e)/\Blk M' w' w.heap.size rc/\e<=rc.size/\∀off,e<=off->M'.im w.heap.size off=none)
  (hm: ∀es,x= .map es-> ∃ents clock,M'.loc h.next=some w.heap.size/\w'.heap[w.heap.size]?=some (.map ents clock)/\uF M' es ents.toList/\Brn ents clock) (hx:x≠ .free:=by simp):
  Inv M' (h.push x) w'/\Pres w.heap.size M h w M' (h.push x) w':=by
 have hE:=f.ext a;refine⟨?_,?_⟩
 ·refine⟨?_,?_,?_,?_,?_,?_,?_,?_,?_,?_⟩
  ·rw [f.nid,a.nid,Heap.next_push]
  ·intro id hid;rw [Heap.next_push]at hid;rw [Heap.get_push,if_neg (by omega)];exact a.fresh id (by omega)
  ·intro id hid;rw [Heap.next_push]at hid;exact hlt id (by omega)
  ·intro id cs e
   by_cases hi:id=h.next
   ·subst hi;rw [Heap.get_push,if_pos rfl]at e;obtain⟨rc,h1,h2⟩:=hc cs e;exact⟨_,rc,h1,h2⟩
   ·rw [Heap.get_push,if_neg hi]at e;obtain⟨b,rc,h1,h2,h3,h4,h5⟩:=a.cells id cs e;have hb:=h2.lt;exact⟨b,rc,(f.loc id hi).trans h1,h2.keep (nb.old b hb) (f.bsz b (by omega)),h3,h4.mono hE,fun off=>(f.im b off (by omega)).trans (h5 off)⟩
  ·intro id n e
   by_cases hi:id=h.next
   ·subst hi;rw [Heap.get_push,if_pos rfl]at e;obtain⟨h0,e',rc,h1,h2⟩:=ht n e;exact⟨h0,_,e',rc,h1,h2⟩
   ·rw [Heap.get_push,if_neg hi]at e;obtain⟨h0,b,e',rc,h1,h2,h3,h4⟩:=a.tips id n e;have hb:=h2.lt;exact⟨(f.tip id hi).trans h0,b,e',rc,(f.cur id hi).trans h1,h2.keep (nb.old b hb) (f.bsz b (by omega)),h3,fun off ho=>(f.im b off (by omega)).trans (h4 off ho)⟩
  ·intro id es e
   by_cases hi:id=h.next
   ·subst hi;rw [Heap.get_push,if_pos rfl]at e;obtain⟨ents,c,h1,h2⟩:=hm es e;exact⟨_,ents,c,h1,h2⟩
   ·rw [Heap.get_push,if_neg hi]at e;obtain⟨b,ents,c,h1,h2,h3⟩:=a.maps id es e;exact⟨b,ents,c,(f.loc id hi).trans h1,(nb.old b (cL h2)).trans h2,h3.1.mono hE,h3.2⟩
  ·intro b off v e
   by_cases hb:b=w.heap.size
   ·subst hb;exact him off v e
   ·rw [f.im b off hb]at e;rw [oD (nb.old b (a.im_lt e))];exact a.im b off v e
  ·intro b n e;rw [nb.size]
   by_cases hb:b=w.heap.size
   ·omega
   ·rw [f.bsz b hb]at e;have:=a.bsz b n e;omega
  ·intro id id' b e e'
   by_cases hi:id=h.next
   ·by_cases hi':id'=h.next
    ·omega
    ·rw [f.wb hi']at e';subst hi;rw [hwb]at e;simp at e;have:=a.wb_lt e';omega
   ·rw [f.wb hi]at e
    by_cases hi':id'=h.next
    ·subst hi';rw [hwb]at e';simp at e';have:=a.wb_lt e;omega
    ·rw [f.wb hi']at e';exact a.one id id' b e e'
  ·intro id e
   by_cases hi:id=h.next
   ·subst hi;rw [Heap.get_push,if_pos rfl]at e;exact absurd e hx
   ·rw [Heap.get_push,if_neg hi]at e;rw [f.loc id hi,f.tip id hi];exact a.resv id e
 ·refine⟨hE,by rw [nb.size];omega,nb.os,nb.tape,nb.output,?_⟩;intro b hb hn;refine⟨nb.old b hb,?_,fun off=>f.im b off (by omega)⟩;rintro⟨id,e⟩
  by_cases hi:id=h.next
  ·subst hi;rw [hwb]at e;simp at e;omega
  ·rw [f.wb hi]at e;exact hn ⟨id,e⟩
end
end Go.Pv
end
section
namespace Go.Pv
structure UpdS(S:Nat->Prop)(tb:Nat)(M:Meta)(h:Heap)(w:World)(M':Meta)(h':Heap)(w':World):Prop where
 get: ∀j,¬S j->h'.get j=h.get j
 loc: ∀j,¬S j->M'.loc j=M.loc j
 tip: ∀j,¬S j->M'.tip j=M.tip j
 cur: ∀j,¬S j->M'.cur j=M.cur j
 heap: ∀b,b<w.heap.size->b≠tb->w'.heap[b]?=w.heap[b]?
 im: ∀b o,b≠tb->M'.im b o=M.im b o
 bsz: ∀b,b≠tb->M'.bsz b=M.bsz b
 size:w.heap.size<=w'.heap.size
 os:w'.os=w.os
 tape:w'.tape=w.tape
 output:w'.output=w.output
 own:(∃i,S i/\Wb M h i=some tb) \/tb=w.heap.size
 wb: ∀i b,S i->Wb M' h' i=some b->b=tb
 one: ∀i i',S i->S i'->Wb M' h' i=some tb->Wb M' h' i'=some tb->i=i'
 ext:Ext M M'
 nid:M'.nid=h'.next
 fresh: ∀id,h'.next<=id->h'.get id= .dead
 freshl: ∀id,h'.next<=id->M'.loc id=none
 imtb: ∀off v,M'.im tb off=some v->w'.cell? ⟨tb,off,none⟩=some v
 bsztb: ∀n,M'.bsz tb=some n->tb<w'.heap.size
 cells: ∀i cs,S i->h'.get i= .cells cs-> ∃rc,M'.loc i=some tb/\Blk M' w' tb rc/\cs.length<=rc.size/\eB M' cs (rc.toList.take cs.length)/\∀off,M'.im tb off=none
 tips: ∀i n,S i->h'.get i= .tip n->M'.tip i=n/\∃e rc,M'.cur i=(tb,e)/\Blk M' w' tb rc/\e<=rc.size/\∀off,e<=off->M'.im tb off=none
 maps: ∀i es,S i->h'.get i= .map es-> ∃ents clock,M'.loc i=some tb/\w'.heap[tb]?=some (.map ents clock)/\uF M' es ents.toList/\Brn ents clock
 resv: ∀i,S i->h'.get i≠ .free
theorem UpdS.done{S:Nat->Prop}{tb:Nat}{M:Meta}{h:Heap}{w:World}{M':Meta}{h':Heap}{w':World}(u:UpdS S tb M h w M' h' w')(a:Inv M h w):
  Inv M' h' w'/\Pres w.heap.size M h w M' h' w':=by
 have hE:=u.ext;have ne: ∀j b,¬S j->Wb M h j=some b->b≠tb:=by
  intro j b hj e hb;subst hb;rcases u.own with⟨i,hi,e'⟩|e'
  ·exact hj (a.one j i b e e'▸hi)
  ·have:=a.wb_lt e;omega
 have same: ∀j,¬S j->Wb M' h' j=Wb M h j:=by
  intro j hj;simp only [Wb,u.get j hj,u.loc j hj,u.cur j hj]
 refine⟨⟨u.nid,u.fresh,u.freshl,?_,?_,?_,?_,?_,?_,fun id e=>?_⟩,⟨hE,u.size,u.os,u.tape,u.output,?_⟩⟩
 ·intro id cs e
  by_cases hi:S id
  ·obtain⟨rc,h1,h2⟩:=u.cells id cs hi e;exact⟨tb,rc,h1,h2⟩
  ·rw [u.get id hi]at e;obtain⟨b,rc,h1,h2,h3,h4,h5⟩:=a.cells id cs e;have hb:b≠tb:=ne id b hi (by simp [Wb,e,h1]);exact⟨b,rc,(u.loc id hi).trans h1,h2.keep (u.heap b h2.lt hb) (u.bsz b hb),h3,h4.mono hE,fun off=>(u.im b off hb).trans (h5 off)⟩
 ·intro id n e
  by_cases hi:S id
  ·obtain⟨h0,e',rc,h1,h2⟩:=u.tips id n hi e;exact⟨h0,tb,e',rc,h1,h2⟩
  ·rw [u.get id hi]at e;obtain⟨h0,b,e',rc,h1,h2,h3,h4⟩:=a.tips id n e;have hb:b≠tb:=ne id b hi (by simp [Wb,e,h1]);exact⟨(u.tip id hi).trans h0,b,e',rc,(u.cur id hi).trans h1,h2.keep (u.heap b h2.lt hb) (u.bsz b hb),h3,fun off ho=>(u.im b off hb).trans (h4 off ho)⟩
 ·intro id es e
  by_cases hi:S id
  ·obtain⟨ents,c,h1,h2⟩:=u.maps id es hi e;exact⟨tb,ents,c,h1,h2⟩
  ·rw [u.get id hi]at e;obtain⟨b,ents,c,h1,h2,h3⟩:=a.maps id es e;have hb:b≠tb:=ne id b hi (by simp [Wb,e,h1]);exact⟨b,ents,c,(u.loc id hi).trans h1,(u.heap b (cL h2) hb).trans h2,h3.1.mono hE,h3.2⟩
 ·intro b off v e
  by_cases hb:b=tb
  ·subst hb;exact u.imtb off v e
  ·rw [u.im b off hb]at e;rw [oD (u.heap b (a.im_lt e) hb)];exact a.im b off v e
 ·intro b n e
  by_cases hb:b=tb
  ·subst hb;exact u.bsztb n e
  ·rw [u.bsz b hb]at e;have:=a.bsz b n e;have:=u.size;omega
 ·intro id id' b e e'
  by_cases hi:S id
  ·have hb:=u.wb id b hi e;subst hb
   by_cases hi':S id'
   ·exact u.one id id' hi hi' e e'
   ·rw [same id' hi']at e';exact absurd rfl (ne id' b hi' e')
  ·rw [same id hi]at e
   by_cases hi':S id'
   ·have hb:=u.wb id' b hi' e';exact absurd hb (ne id b hi e)
   ·rw [same id' hi']at e';exact a.one id id' b e e'
 ·by_cases hi:S id
  ·exact absurd e (u.resv id hi)
  ·rw [u.get id hi]at e;rw [u.loc id hi,u.tip id hi];exact a.resv id e
 ·intro b hb hn;have hbt:b≠tb:=by
   intro e;subst e;rcases u.own with⟨i,hi,e'⟩|e'
   ·exact hn ⟨i,e'⟩
   ·omega
  refine⟨u.heap b hb hbt,?_,fun off=>u.im b off hbt⟩;rintro⟨id,e⟩
  by_cases hi:S id
  ·exact hbt (u.wb id b hi e)
  ·rw [same id hi]at e;exact hn ⟨id,e⟩
section
variable {M:Meta} {h:Heap} {w w':World} (a:Inv M h w)
theorem iP{rc:Array Value}{el:TypeId}{fz:Nat×Nat}{b:Nat}(hb:w'.heap[b]?=some (.cells rc el fz))(hf:fz.2<=fz.1\/rc.size<=fz.1)(i:Nat)(hi:i<rc.size):w'.frozen? ⟨b,i,none⟩=false:=by
 obtain⟨lo,hi'⟩:=fz;simp only [World.frozen?,hb];simp only at hf;simp;omega
include a
theorem yR{rc:Array Value}{el:TypeId}{fz:Nat×Nat}(nb:NewBlk w w' (.cells rc el fz))(hf:fz.2<=fz.1\/rc.size<=fz.1){cs:List IV}(hle:cs.length<=rc.size)(hc:eB M cs (rc.toList.take cs.length)):
  ∃M',Inv M' (h.push (.cells cs)) w'/\Pres w.heap.size M h w M' (h.push (.cells cs)) w'/\M'.loc h.next=some w.heap.size/\M'.bsz w.heap.size=some rc.size:=by
 let M':Meta:= {M with nid:=M.nid+1,loc:=fun i=>if i=h.next then some w.heap.size else M.loc i,bsz:=fun b=>if b=w.heap.size then some rc.size else M.bsz b }
 have hf1:Fresh1 M M' h w:=⟨fun i hi=>by simp [M',hi],fun _ _=>rfl,fun _ _=>rfl,fun _ _ _=>rfl,fun b hb=>by simp [M',hb],rfl⟩;have himn: ∀off,M.im w.heap.size off=none:=by
  intro off
  cases e:M.im w.heap.size off with
  |none=>rfl
  |some v=>have:=a.im_lt e;omega
 have hE:=hf1.ext a;have:=hf1.inv a (x:= .cells cs) nb (fun i hi=>by simp [M',show i≠h.next by omega,a.freshl i (by omega)])
  (by simp [Wb,Heap.get_push,M']) (fun off v e=>by simp [M',himn]at e)
  (fun cs' e=>by
   simp at e;subst e;exact⟨rc,by simp [M'],⟨⟨el,fz,nb.new⟩,fun i hi=>iP nb.new hf i hi,by simp [M']⟩,hle,hc.mono hE,himn⟩)
  (fun n e=>by simp at e) (fun es e=>by simp at e)
 exact⟨M',this.1,this.2,by simp [M'],by simp [M']⟩
theorem e4N{rc:Array Value}{el:TypeId}{fz:Nat×Nat}(nb:NewBlk w w' (.cells rc el fz))(hf:fz.2<=fz.1\/rc.size<=fz.1){cs:List IV}{len sz cap:Nat}(hn:cs.length=len*sz)(hlen:len<=cap)(hcap:cap*sz<=rc.size)
  (hc:eB M cs (rc.toList.take cs.length)):
  ∃M',Inv M' (h.push (.tip (len*sz))) w'/\Pres w.heap.size M h w M' (h.push (.tip (len*sz))) w'/\VR M' (.vslice (some h.next) (len*sz) len sz cs) (.slice (some ⟨w.heap.size,0,none⟩) len cap):=by
 have hle:cs.length<=rc.size:=by
  have:len*sz<=cap*sz:=h2Q _ hlen;omega
 let M':Meta:= {M with nid:=M.nid+1,tip:=fun i=>if i=h.next then cs.length else M.tip i,cur:=fun i=>if i=h.next then(w.heap.size,cs.length)else M.cur i,im:=fun b o=>if b=w.heap.size then(if o<cs.length then rc[o]? else none)else M.im b o,bsz:=fun b=>if b=w.heap.size then some rc.size else M.bsz b }
 have hf1:Fresh1 M M' h w:=⟨fun _ _=>rfl,fun i hi=>by simp [M',hi],fun i hi=>by simp [M',hi],fun b o hb=>by simp [M',hb],fun b hb=>by simp [M',hb],rfl⟩;have hE:=hf1.ext a;rw [<-hn];have:=hf1.inv a (x:= .tip cs.length) nb (fun i hi=>a.freshl i (by omega))
  (by simp [Wb,Heap.get_push,M']) (fun off v e=>by
   simp only [M',if_true]at e;split at e
   ·simp only [World.cell?,nb.new,h3S,h1X,if_false];exact e
   ·simp at e)
  (fun cs' e=>by simp at e)
  (fun n e=>by
   simp at e;subst e;exact⟨by simp [M'],cs.length,rc,by simp [M'],⟨⟨el,fz,nb.new⟩,fun i hi=>iP nb.new hf i hi,by simp [M']⟩,hle,fun off ho=>by simp [M'];omega⟩)
  (fun es e=>by simp at e)
 refine⟨M',this.1,this.2,?_⟩;have hc':=hc.mono hE;refine .vslice ⟨w.heap.size,0,none⟩ (fun i=>rc.getD i undef) hn hlen (.inr ⟨rfl,rc.size,by simp [M'],by simpa using hcap⟩) ?_ ?_ hc'.2 ?_ (by simp)
 ·intro i hi;simp [M',hi,show i<rc.size by omega]
 ·intro i hi;have:=hc'.1.2 i hi (by simp;omega);simpa [show i<rc.size by omega]using this
 ·intro i e;simp at e;subst e;exact⟨by show h.next<M.nid+1;rw [a.nid];omega,h1D _,by simp [M'],fun _=> .inr (by simp [M'])⟩
theorem e4O{rc:Array Value}{el:TypeId}{fz:Nat×Nat}(nb:NewBlk w w' (.cells rc el fz)){cs:List IV}{len sz:Nat}(hn:cs.length=len*sz)(h0:0<sz)(hc:eB M cs rc.toList):
  ∃M',Inv M' h w'/\Pres w.heap.size M h w M' h w'/\VR M' (.vslice none 1 len sz cs) (.slice (some ⟨w.heap.size,0,none⟩) len len):=by
 have hsz:rc.size=cs.length:=by have:=hc.len;simpa using this.symm
 let M':Meta:= {M with im:=fun b o=>if b=w.heap.size then rc[o]? else M.im b o,bsz:=fun b=>if b=w.heap.size then some rc.size else M.bsz b }
 have hE:Ext M M':=⟨h1D _,fun _ _ x=>x,fun c o v x=>by
  simp only [M'];rw [if_neg (by have:=a.im_lt x;omega)];exact x,fun c n' x=>by
  simp only [M'];rw [if_neg (by have:=a.bsz c n' x;omega)];exact x,fun _ _=>h1D _,fun _ _ _=>rfl⟩
 have hmain:Inv M' h w'/\Pres w.heap.size M h w M' h w':=by
  refine UpdS.done (S:=fun _=>False) (tb:=w.heap.size) ?_ a;refine {
   get:=fun _ _=>rfl,loc:=fun _ _=>rfl,tip:=fun _ _=>rfl,cur:=fun _ _=>rfl,heap:=fun j hj _=>nb.old j hj,im:=fun c o hc=>by simp [M',hc],bsz:=fun c hc=>by simp [M',hc],size:=(by rw [nb.size];omega),
   os:=nb.os,tape:=nb.tape,output:=nb.output,own:= .inr rfl,wb:=fun _ _ hf=>hf.elim,one:=fun _ _ hf=>hf.elim,ext:=hE,nid:=a.nid,fresh:=a.fresh,freshl:=a.freshl,imtb:=?_,bsztb:=?_,cells:=fun _ _ hf=>hf.elim,tips:=fun _ _ hf=>hf.elim,maps:=fun _ _ hf=>hf.elim,resv:=fun _ hf=>hf.elim }
  ·intro off v x;simp only [M',if_true]at x;simp only [World.cell?,nb.new,h3S,h1X,if_false];exact x
  ·intro n' x;rw [nb.size];omega
 refine⟨M',hmain.1,hmain.2,?_⟩;have hc':=hc.mono hE;refine .vslice ⟨w.heap.size,0,none⟩ (fun i=>rc.getD i undef) hn (h1D _) (.inr ⟨rfl,rc.size,by simp [M'],by simp;omega⟩) ?_ ?_ hc'.2 (by simp) (fun _=> .inr ⟨rfl,rfl,h0⟩)
 ·intro i hi;simp [M',show i<rc.size by omega]
 ·intro i hi;have:=hc'.1.2 i hi (by simp;omega);simpa [show i<rc.size by omega]using this
theorem e4P(nb:NewBlk w w' (.map #[] 0)): ∃M',Inv M' (h.push (.map [])) w'/\Pres w.heap.size M h w M' (h.push (.map [])) w'/\M'.loc h.next=some w.heap.size:=by
 let M':Meta:= {M with nid:=M.nid+1,loc:=fun i=>if i=h.next then some w.heap.size else M.loc i }
 have hf1:Fresh1 M M' h w:=⟨fun i hi=>by simp [M',hi],fun _ _=>rfl,fun _ _=>rfl,fun _ _ _=>rfl,fun _ _=>rfl,rfl⟩;have himn: ∀off,M.im w.heap.size off=none:=by
  intro off
  cases e:M.im w.heap.size off with
  |none=>rfl
  |some v=>have:=a.im_lt e;omega
 have:=hf1.inv a (x:= .map []) nb (fun i hi=>by simp [M',show i≠h.next by omega,a.freshl i (by omega)])
  (by simp [Wb,Heap.get_push,M']) (fun off v e=>by simp [M',himn]at e)
  (fun cs' e=>by simp at e) (fun n e=>by simp at e)
  (fun es e=>by simp at e;subst e;exact⟨#[],0,by simp [M'],nb.new,⟨cW.nil _,cW.nil _⟩,Brn.nil⟩)
 exact⟨M',this.1,this.2,by simp [M']⟩
theorem a7M{id b:Nat}{cs cs':List IV}{rc':Array Value}(hg:h.get id= .cells cs)(hb:M.loc id=some b)(hk: ∀k,k≠b->w'.heap[k]?=w.heap[k]?)(hs:w'.heap.size=w.heap.size)
  (hr:w'.os=w.os/\w'.tape=w.tape/\w'.output=w.output) (hB:Blk M w' b rc') (hle:cs'.length<=rc'.size) (hc:eB M cs' (rc'.toList.take cs'.length)):
  Inv M (h.set id (.cells cs')) w'/\Pres w.heap.size M h w M (h.set id (.cells cs')) w':=by
 obtain⟨b',rc,h1,h2,h3,h4,h5⟩:=a.cells id cs hg;rw [hb]at h1;simp at h1;subst h1;refine UpdS.done (S:=fun j=>j=id) (tb:=b) ?_ a;refine {
  get:=fun j hj=>by rw [Heap.get_set,if_neg hj],loc:=fun _ _=>rfl,tip:=fun _ _=>rfl,cur:=fun _ _=>rfl,heap:=fun k _ hk'=>hk k hk',im:=fun _ _ _=>rfl,bsz:=fun _ _=>rfl,size:=(by omega),
  os:=hr.1,tape:=hr.2.1,output:=hr.2.2,own:= .inl ⟨id,rfl,by simp [Wb,hg,hb]⟩,wb:=?_,one:=fun i i' e e' _ _=>e.trans e'.symm,ext:=Ext.refl M,nid:=a.nid,fresh:=?_,freshl:=a.freshl,imtb:=?_,bsztb:=?_,cells:=?_,tips:=?_,maps:=?_,resv:=fun i hi e=>by subst hi;simp [Heap.get_set]at e }
 ·intro i k e ew;subst e;simp [Wb,Heap.get_set,hb]at ew;exact ew.symm
 ·intro j hj;rw [Heap.next_set]at hj;rw [Heap.get_set,if_neg]
  ·exact a.fresh j hj
  ·intro e;subst e;rw [a.fresh j hj]at hg;simp at hg
 ·intro off v e;rw [h5]at e;simp at e
 ·intro n e;exact hs▸a.bsz b n e
 ·intro i cs'' e eg;subst e;simp [Heap.get_set]at eg;subst eg;exact⟨rc',hb,hB,hle,hc,h5⟩
 ·intro i n e eg;subst e;simp [Heap.get_set]at eg
 ·intro i n e eg;subst e;simp [Heap.get_set]at eg
theorem b0F{id b:Nat}{es es':List (IV×IV)}{ents:Array MapEntry}{clock:Nat}(hg:h.get id= .map es)(hb:M.loc id=some b)(hk: ∀k,k≠b->w'.heap[k]?=w.heap[k]?)(hs:w'.heap.size=w.heap.size)
  (hr:w'.os=w.os/\w'.tape=w.tape/\w'.output=w.output) (hB:w'.heap[b]?=some (.map ents clock)) (hc:uF M es' ents.toList/\Brn ents clock):
  Inv M (h.set id (.map es')) w'/\Pres w.heap.size M h w M (h.set id (.map es')) w':=by
 obtain⟨b',ents0,c0,h1,h2,h3⟩:=a.maps id es hg;rw [hb]at h1;simp at h1;subst h1;refine UpdS.done (S:=fun j=>j=id) (tb:=b) ?_ a;refine {
  get:=fun j hj=>by rw [Heap.get_set,if_neg hj],loc:=fun _ _=>rfl,tip:=fun _ _=>rfl,cur:=fun _ _=>rfl,heap:=fun k _ hk'=>hk k hk',im:=fun _ _ _=>rfl,bsz:=fun _ _=>rfl,size:=(by omega),
  os:=hr.1,tape:=hr.2.1,output:=hr.2.2,own:= .inl ⟨id,rfl,by simp [Wb,hg,hb]⟩,wb:=?_,one:=fun i i' e e' _ _=>e.trans e'.symm,ext:=Ext.refl M,nid:=a.nid,fresh:=?_,freshl:=a.freshl,imtb:=?_,bsztb:=?_,cells:=?_,tips:=?_,maps:=?_,resv:=fun i hi e=>by subst hi;simp [Heap.get_set]at e }
 ·intro i k e ew;subst e;simp [Wb,Heap.get_set,hb]at ew;exact ew.symm
 ·intro j hj;rw [Heap.next_set]at hj;rw [Heap.get_set,if_neg]
  ·exact a.fresh j hj
  ·intro e;subst e;rw [a.fresh j hj]at hg;simp at hg
 ·intro off v e;have:=a.im b off v e;simp [World.cell?,h2]at this
 ·intro n e;exact hs▸a.bsz b n e
 ·intro i n e eg;subst e;simp [Heap.get_set]at eg
 ·intro i n e eg;subst e;simp [Heap.get_set]at eg
 ·intro i es'' e eg;subst e;simp [Heap.get_set]at eg;subst eg;exact⟨ents,clock,hb,hB,hc⟩
theorem d3G{id e k b pos:Nat}{rc rc':Array Value}(hg:h.get id= .tip e)(hcur:M.cur id=(b,pos))(hB:Blk M w b rc)(hB': ∃el fz,w'.heap[b]?=some (.cells rc' el fz))(hfr: ∀i,i<rc'.size->w'.frozen? ⟨b,i,none⟩=false)
  (hsz:rc'.size=rc.size) (hpos:pos+k<=rc.size) (hold: ∀i,i<pos->rc'[i]?=rc[i]?) (hk0:0<k)
  (hk: ∀j,j≠b->w'.heap[j]?=w.heap[j]?) (hs:w'.heap.size=w.heap.size) (hr:w'.os=w.os/\w'.tape=w.tape/\w'.output=w.output):
  ∃M',Inv M' (h.set id (.tip (e+k))) w'/\Pres w.heap.size M h w M' (h.set id (.tip (e+k))) w'/\M'.tip id=e+k/\M'.cur id=(b,pos+k)/\M'.nid=M.nid/\M'.bsz=M.bsz/\
   (∀i,i<k->M'.im b (pos+i)=rc'[pos+i]?):=by
 obtain⟨h0,b',e',rc0,h1,h2,h3,h4⟩:=a.tips id e hg;rw [hcur]at h1;simp at h1;obtain⟨rfl,rfl⟩:=h1;obtain⟨el,fz,hB'⟩:=hB'
 let M':Meta:= {M with tip:=fun i=>if i=id then e+k else M.tip i,cur:=fun i=>if i=id then(b,pos+k)else M.cur i,im:=fun c o=>if c=b/\pos<=o/\o<pos+k then rc'[o]? else M.im c o }
 have hidlt:id<h.next:=by
  rcases h2D id h.next with hl|hl
  ·exact hl
  ·rw [a.fresh id hl]at hg;simp at hg
 have hE:Ext M M':=⟨h1D _,fun _ _ x=>x,fun c o v x=>by
  simp only [M'];split
  ·rename_i hc;obtain⟨rfl,q1,q2⟩:=hc;rw [h4 o q1]at x;simp at x
  ·exact x,fun _ _ x=>x,fun i hi=>by
   simp only [M'];split
   ·rename_i e;subst e;omega
   ·exact h1D _,fun i hi ht=>by
   simp only [M']at ht⊢;split at ht
   ·rename_i e;subst e;omega
   ·rename_i e;rw [if_neg e]⟩
 refine⟨M',?_⟩;have hmain:Inv M' (h.set id (.tip (e+k))) w'/\Pres w.heap.size M h w M' (h.set id (.tip (e+k))) w':=by
  refine UpdS.done (S:=fun j=>j=id) (tb:=b) ?_ a;refine {
   get:=fun j hj=>by rw [Heap.get_set,if_neg hj],loc:=fun _ _=>rfl,tip:=fun j hj=>by simp [M',hj],cur:=fun j hj=>by simp [M',hj],heap:=fun j _ hj=>hk j hj,im:=fun c o hc=>by simp [M',hc],bsz:=fun _ _=>rfl,size:=(by omega),
   os:=hr.1,tape:=hr.2.1,output:=hr.2.2,own:= .inl ⟨id,rfl,by simp [Wb,hg,hcur]⟩,wb:=?_,one:=fun i i' e e' _ _=>e.trans e'.symm,ext:=hE,nid:=a.nid,fresh:=?_,freshl:=a.freshl,imtb:=?_,bsztb:=?_,cells:=?_,tips:=?_,maps:=?_,resv:=fun i hi e=>by subst hi;simp [Heap.get_set]at e }
  ·intro i c e ew;subst e;simp [Wb,Heap.get_set,M']at ew;exact ew.symm
  ·intro j hj;rw [Heap.next_set]at hj;rw [Heap.get_set,if_neg (by omega)];exact a.fresh j hj
  ·intro off v x;simp only [M']at x;simp only [World.cell?,hB',h3S,h1X,if_false];split at x
   ·exact x
   ·have:=a.im b off v x;have hlt:off<pos:=by
     rcases h2D off pos with q|q
     ·exact q
     ·rw [h4 off q]at x;simp at x
    obtain⟨el0,fz0,hb0⟩:=hB.at_;simp only [World.cell?,hb0,h3S,h1X,if_false]at this;rw [hold off hlt];exact this
  ·intro n x;exact hs▸a.bsz b n x
  ·intro i n e eg;subst e;simp [Heap.get_set]at eg
  ·intro i n e eg;subst e;simp [Heap.get_set]at eg;subst eg;refine⟨by simp [M'],pos+k,rc',by simp [M'],⟨⟨el,fz,hB'⟩,hfr,by show M.bsz b=_;rw [hB.bsz,hsz]⟩,by omega,fun off ho=>?_⟩;simp only [M'];rw [if_neg (by omega)];exact h4 off (by omega)
  ·intro i n e eg;subst e;simp [Heap.get_set]at eg
 refine⟨hmain.1,hmain.2,by simp [M'],by simp [M'],rfl,rfl,fun i hi=>?_⟩;simp only [M'];rw [if_pos ⟨trivial,by omega,by omega⟩]
theorem e4Q{id e k n:Nat}{rc:Array Value}{el:TypeId}{fz:Nat×Nat}(hg:h.get id= .tip e)(nb:NewBlk w w' (.cells rc el fz))(hf:fz.2<=fz.1\/rc.size<=fz.1)(hn:n<=rc.size)(hk0:0<k):
  ∃M',Inv M' (h.set id (.tip (e+k))) w'/\Pres w.heap.size M h w M' (h.set id (.tip (e+k))) w'/\M'.tip id=e+k/\M'.cur id=(w.heap.size,n)/\M'.nid=M.nid/\M'.bsz w.heap.size=some rc.size/\
   (∀i,i<n->M'.im w.heap.size i=rc[i]?):=by
 obtain⟨h0,b',e',rc0,h1,h2,h3,h4⟩:=a.tips id e hg
 let M':Meta:= {M with tip:=fun i=>if i=id then e+k else M.tip i,cur:=fun i=>if i=id then(w.heap.size,n)else M.cur i,im:=fun c o=>if c=w.heap.size then(if o<n then rc[o]? else none)else M.im c o,bsz:=fun b=>if b=w.heap.size then some rc.size else M.bsz b }
 have hidlt:id<h.next:=by
  rcases h2D id h.next with hl|hl
  ·exact hl
  ·rw [a.fresh id hl]at hg;simp at hg
 have hE:Ext M M':=⟨h1D _,fun _ _ x=>x,fun c o v x=>by
  simp only [M'];rw [if_neg (by have:=a.im_lt x;omega)];exact x,fun c n' x=>by
  simp only [M'];rw [if_neg (by have:=a.bsz c n' x;omega)];exact x,fun i hi=>by
   simp only [M'];split
   ·rename_i e;subst e;omega
   ·exact h1D _,fun i hi ht=>by
   simp only [M']at ht⊢;split at ht
   ·rename_i e;subst e;omega
   ·rename_i e;rw [if_neg e]⟩
 refine⟨M',?_⟩;have hmain:Inv M' (h.set id (.tip (e+k))) w'/\Pres w.heap.size M h w M' (h.set id (.tip (e+k))) w':=by
  refine UpdS.done (S:=fun j=>j=id) (tb:=w.heap.size) ?_ a;refine {
   get:=fun j hj=>by rw [Heap.get_set,if_neg hj],loc:=fun _ _=>rfl,tip:=fun j hj=>by simp [M',hj],cur:=fun j hj=>by simp [M',hj],heap:=fun j hj _=>nb.old j hj,im:=fun c o hc=>by simp [M',hc],bsz:=fun c hc=>by simp [M',hc],size:=(by rw [nb.size];omega),
   os:=nb.os,tape:=nb.tape,output:=nb.output,own:= .inr rfl,wb:=?_,one:=fun i i' e e' _ _=>e.trans e'.symm,ext:=hE,nid:=a.nid,fresh:=?_,freshl:=a.freshl,imtb:=?_,bsztb:=?_,cells:=?_,tips:=?_,maps:=?_,resv:=fun i hi e=>by subst hi;simp [Heap.get_set]at e }
  ·intro i c e ew;subst e;simp [Wb,Heap.get_set,M']at ew;exact ew.symm
  ·intro j hj;rw [Heap.next_set]at hj;rw [Heap.get_set,if_neg (by omega)];exact a.fresh j hj
  ·intro off v x;simp only [M',if_true]at x;simp only [World.cell?,nb.new,h3S,h1X,if_false];split at x
   ·exact x
   ·simp at x
  ·intro n' x;rw [nb.size];omega
  ·intro i n e eg;subst e;simp [Heap.get_set]at eg
  ·intro i n' e eg;subst e;simp [Heap.get_set]at eg;subst eg;exact⟨by simp [M'],n,rc,by simp [M'],⟨⟨el,fz,nb.new⟩,fun i hi=>iP nb.new hf i hi,by simp [M']⟩,hn,fun off ho=>by simp [M'];omega⟩
  ·intro i n e eg;subst e;simp [Heap.get_set]at eg
 refine⟨hmain.1,hmain.2,by simp [M'],by simp [M'],rfl,by simp [M'],fun i hi=>?_⟩;simp only [M',if_true];rw [if_pos hi]
theorem b9X{id b:Nat}{cs cs':List IV}{rc':Array Value}(hg:h.get id= .cells cs)(hb:M.loc id=some b)(hk: ∀k,k≠b->w'.heap[k]?=w.heap[k]?)(hs:w'.heap.size=w.heap.size)
  (hr:w'.os=w.os/\w'.tape=w.tape/\w'.output=w.output) (hB:Blk M w' b rc') (hle:cs'.length<=rc'.size) (hc:eB M cs' (rc'.toList.take cs'.length)):
  ∃M',Inv M' ((h.set id .dead).push (.cells cs')) w'/\Pres w.heap.size M h w M' ((h.set id .dead).push (.cells cs')) w'/\M'.loc h.next=some b/\M'.bsz b=some rc'.size:=by
 obtain⟨b',rc,h1,h2,h3,h4,h5⟩:=a.cells id cs hg;rw [hb]at h1;simp at h1;subst h1;have hidlt:id<h.next:=by
  rcases h2D id h.next with hl|hl
  ·exact hl
  ·rw [a.fresh id hl]at hg;simp at hg
 let M':Meta:= {M with nid:=M.nid+1,loc:=fun i=>if i=h.next then some b else M.loc i }
 have hE:Ext M M':=⟨by simp [M'],fun i c x=>by
  simp only [M'];rw [if_neg];exact x;intro e;subst e;rw [a.freshl _ (h1D _)]at x;simp at x,fun _ _ _ x=>x,fun _ _ x=>x,fun _ _=>h1D _,fun _ _ _=>rfl⟩
 refine⟨M',?_⟩;have hg': ∀j,((h.set id .dead).push (.cells cs')).get j=if j=h.next then .cells cs' else if j=id then .dead else h.get j:=by
  intro j;rw [Heap.get_push,Heap.next_set,Heap.get_set]
 have hmain:Inv M' ((h.set id .dead).push (.cells cs')) w'/\Pres w.heap.size M h w M' ((h.set id .dead).push (.cells cs')) w':=by
  refine UpdS.done (S:=fun j=>j=id\/j=h.next) (tb:=b) ?_ a;have w1:Wb M' ((h.set id .dead).push (.cells cs')) id=none:=by simp [Wb,hg',show id≠h.next by omega]
  have w2:Wb M' ((h.set id .dead).push (.cells cs')) h.next=some b:=by simp [Wb,hg',M']
  refine {
   get:=fun j hj=>by rw [hg',if_neg (fun e=>hj (.inr e)),if_neg (fun e=>hj (.inl e))],loc:=fun j hj=>by simp [M',show j≠h.next from fun e=>hj (.inr e)],tip:=fun _ _=>rfl,cur:=fun _ _=>rfl,heap:=fun k _ hk'=>hk k hk',im:=fun _ _ _=>rfl,bsz:=fun _ _=>rfl,size:=(by omega),
   os:=hr.1,tape:=hr.2.1,output:=hr.2.2,own:= .inl ⟨id,.inl rfl,by simp [Wb,hg,hb]⟩,wb:=?_,one:=?_,ext:=hE,nid:=?_,fresh:=?_,freshl:=?_,imtb:=?_,bsztb:=?_,cells:=?_,tips:=?_,maps:=?_,resv:=fun i hi e=>by rw [hg']at e;rcases hi with rfl|rfl<;>(repeat' split at e)<;>simp_all }
  ·rintro i c (rfl|rfl) ew
   ·rw [w1]at ew;simp at ew
   ·rw [w2]at ew;simp at ew;exact ew.symm
  ·rintro i i' (rfl|rfl) (rfl|rfl) e1 e2
   ·rfl
   ·rw [w1]at e1;simp at e1
   ·rw [w1]at e2;simp at e2
   ·rfl
  ·show M.nid+1=_;rw [a.nid];rfl
  ·intro j hj;have hj':h.next+1<=j:=hj;rw [hg',if_neg (by omega),if_neg (by omega)];exact a.fresh j (by omega)
  ·intro j hj;have hj':h.next+1<=j:=hj;simp only [M'];rw [if_neg (by omega)];exact a.freshl j (by omega)
  ·intro off v e;have e':M.im b off=some v:=e;rw [h5]at e';simp at e'
  ·intro n e;exact hs▸a.bsz b n e
  ·rintro i cs'' (rfl|rfl) eg
   ·rw [hg',if_neg (by omega)]at eg;simp at eg
   ·rw [hg',if_pos rfl]at eg;simp at eg;subst eg;exact⟨rc',by simp [M'],⟨hB.at_,hB.free,hB.bsz⟩,hle,hc.mono hE,h5⟩
  ·rintro i n (rfl|rfl) eg
   ·rw [hg',if_neg (by omega)]at eg;simp at eg
   ·rw [hg',if_pos rfl]at eg;simp at eg
  ·rintro i n (rfl|rfl) eg
   ·rw [hg',if_neg (by omega)]at eg;simp at eg
   ·rw [hg',if_pos rfl]at eg;simp at eg
 exact⟨hmain.1,hmain.2,by simp [M'],hB.bsz⟩
theorem c9R{id:Nat}{cs cs':List IV}{rc:Array Value}{el:TypeId}{fz:Nat×Nat}(hg:h.get id= .cells cs)(nb:NewBlk w w' (.cells rc el fz))(hf:fz.2<=fz.1\/rc.size<=fz.1)(hle:cs'.length<=rc.size)(hc:eB M cs' (rc.toList.take cs'.length)):
  ∃M',Inv M' ((h.set id .dead).push (.cells cs')) w'/\Pres w.heap.size M h w M' ((h.set id .dead).push (.cells cs')) w'/\M'.loc h.next=some w.heap.size/\M'.bsz w.heap.size=some rc.size:=by
 have hidlt:id<h.next:=by
  rcases h2D id h.next with hl|hl
  ·exact hl
  ·rw [a.fresh id hl]at hg;simp at hg
 let M':Meta:= {M with nid:=M.nid+1,loc:=fun i=>if i=h.next then some w.heap.size else M.loc i,bsz:=fun b=>if b=w.heap.size then some rc.size else M.bsz b }
 have hE:Ext M M':=⟨by simp [M'],fun i c x=>by
  simp only [M'];rw [if_neg];exact x;intro e;subst e;rw [a.freshl _ (h1D _)]at x;simp at x,fun _ _ _ x=>x,fun c n x=>by
  simp only [M'];rw [if_neg (by have:=a.bsz c n x;omega)];exact x,fun _ _=>h1D _,fun _ _ _=>rfl⟩
 have himn: ∀off,M.im w.heap.size off=none:=by
  intro off
  cases e:M.im w.heap.size off with
  |none=>rfl
  |some v=>have:=a.im_lt e;omega
 refine⟨M',?_⟩;have hg': ∀j,((h.set id .dead).push (.cells cs')).get j=if j=h.next then .cells cs' else if j=id then .dead else h.get j:=by
  intro j;rw [Heap.get_push,Heap.next_set,Heap.get_set]
 have hmain:Inv M' ((h.set id .dead).push (.cells cs')) w'/\Pres w.heap.size M h w M' ((h.set id .dead).push (.cells cs')) w':=by
  refine UpdS.done (S:=fun j=>j=id\/j=h.next) (tb:=w.heap.size) ?_ a;have w1:Wb M' ((h.set id .dead).push (.cells cs')) id=none:=by simp [Wb,hg',show id≠h.next by omega]
  have w2:Wb M' ((h.set id .dead).push (.cells cs')) h.next=some w.heap.size:=by simp [Wb,hg',M']
  refine {
   get:=fun j hj=>by rw [hg',if_neg (fun e=>hj (.inr e)),if_neg (fun e=>hj (.inl e))],loc:=fun j hj=>by simp [M',show j≠h.next from fun e=>hj (.inr e)],tip:=fun _ _=>rfl,cur:=fun _ _=>rfl,heap:=fun k hk' _=>nb.old k hk',im:=fun _ _ _=>rfl,bsz:=fun c hc=>by simp [M',hc],size:=(by rw [nb.size];omega),
   os:=nb.os,tape:=nb.tape,output:=nb.output,own:= .inr rfl,wb:=?_,one:=?_,ext:=hE,nid:=?_,fresh:=?_,freshl:=?_,imtb:=?_,bsztb:=?_,cells:=?_,tips:=?_,maps:=?_,resv:=fun i hi e=>by rw [hg']at e;rcases hi with rfl|rfl<;>(repeat' split at e)<;>simp_all }
  ·rintro i c (rfl|rfl) ew
   ·rw [w1]at ew;simp at ew
   ·rw [w2]at ew;simp at ew;exact ew.symm
  ·rintro i i' (rfl|rfl) (rfl|rfl) e1 e2
   ·rfl
   ·rw [w1]at e1;simp at e1
   ·rw [w1]at e2;simp at e2
   ·rfl
  ·show M.nid+1=_;rw [a.nid];rfl
  ·intro j hj;have hj':h.next+1<=j:=hj;rw [hg',if_neg (by omega),if_neg (by omega)];exact a.fresh j (by omega)
  ·intro j hj;have hj':h.next+1<=j:=hj;simp only [M'];rw [if_neg (by omega)];exact a.freshl j (by omega)
  ·intro off v e;have e':M.im w.heap.size off=some v:=e;rw [himn]at e';simp at e'
  ·intro n e;rw [nb.size];omega
  ·rintro i cs'' (rfl|rfl) eg
   ·rw [hg',if_neg (by omega)]at eg;simp at eg
   ·rw [hg',if_pos rfl]at eg;simp at eg;subst eg;exact⟨rc,by simp [M'],⟨⟨el,fz,nb.new⟩,fun i hi=>iP nb.new hf i hi,by simp [M']⟩,hle,hc.mono hE,himn⟩
  ·rintro i n (rfl|rfl) eg
   ·rw [hg',if_neg (by omega)]at eg;simp at eg
   ·rw [hg',if_pos rfl]at eg;simp at eg
  ·rintro i n (rfl|rfl) eg
   ·rw [hg',if_neg (by omega)]at eg;simp at eg
   ·rw [hg',if_pos rfl]at eg;simp at eg
 exact⟨hmain.1,hmain.2,by simp [M'],by simp [M']⟩
end
end Go.Pv
end
section
namespace Go.Pv
open Go
section
variable {M:Meta} {h:Heap} {w w':World} (a:Inv M h w)
include a
theorem Inv.res_lt{n:Nat}(hf:h.get n= .free):n<h.next:=by
 rcases h2D n h.next with hl|hl
 ·exact hl
 ·rw [a.fresh n hl]at hf;simp at hf
theorem Inv.im_none(off:Nat):M.im w.heap.size off=none:=by
 cases e:M.im w.heap.size off with
 |none=>rfl
 |some v=>have:=a.im_lt e;omega
theorem a7N{n:Nat}(hn:h.get n= .free){rc:Array Value}{el:TypeId}{fz:Nat×Nat}(nb:NewBlk w w' (.cells rc el fz))(hf:fz.2<=fz.1\/rc.size<=fz.1){cs:List IV}(hle:cs.length<=rc.size)(hc:eB M cs (rc.toList.take cs.length)):
  ∃M',Inv M' (h.set n (.cells cs)) w'/\Pres w.heap.size M h w M' (h.set n (.cells cs)) w'/\M'.loc n=some w.heap.size/\M'.bsz w.heap.size=some rc.size:=by
 obtain⟨r1,r2⟩:=a.resv n hn;have hlt:=a.res_lt hn
 let M':Meta:= {M with loc:=fun i=>if i=n then some w.heap.size else M.loc i,bsz:=fun b=>if b=w.heap.size then some rc.size else M.bsz b }
 have hE:Ext M M':=⟨h1D _,fun i c x=>by
  simp only [M'];rw [if_neg];exact x;intro e;subst e;rw [r1]at x;simp at x,fun _ _ _ x=>x,fun c k x=>by
  simp only [M'];rw [if_neg (by have:=a.bsz c k x;omega)];exact x,fun _ _=>h1D _,fun _ _ _=>rfl⟩
 have hmain:Inv M' (h.set n (.cells cs)) w'/\Pres w.heap.size M h w M' (h.set n (.cells cs)) w':=by
  refine UpdS.done (S:=fun j=>j=n) (tb:=w.heap.size) ?_ a;refine {
   get:=fun j hj=>by rw [Heap.get_set,if_neg hj],loc:=fun j hj=>by simp [M',show j≠n from hj],tip:=fun _ _=>rfl,cur:=fun _ _=>rfl,heap:=fun k hk' _=>nb.old k hk',im:=fun _ _ _=>rfl,bsz:=fun c hc=>by simp [M',hc],size:=(by rw [nb.size];omega),
   os:=nb.os,tape:=nb.tape,output:=nb.output,own:= .inr rfl,wb:=?_,one:=fun i i' e e' _ _=>e.trans e'.symm,ext:=hE,nid:=a.nid,fresh:=?_,freshl:=?_,imtb:=?_,bsztb:=?_,cells:=?_,tips:=?_,maps:=?_,resv:=fun i hi e=>by subst hi;simp [Heap.get_set]at e }
  ·rintro i c rfl ew;simp [Wb,Heap.get_set,M']at ew;exact ew.symm
  ·intro j hj;have hj':h.next<=j:=hj;rw [Heap.get_set,if_neg (by omega)];exact a.fresh j hj'
  ·intro j hj;have hj':h.next<=j:=hj;simp only [M'];rw [if_neg (by omega)];exact a.freshl j hj'
  ·intro off v e;have e':M.im w.heap.size off=some v:=e;rw [a.im_none]at e';simp at e'
  ·intro k e;rw [nb.size];omega
  ·rintro i cs'' rfl eg;simp [Heap.get_set]at eg;subst eg;exact⟨rc,by simp [M'],⟨⟨el,fz,nb.new⟩,fun i hi=>iP nb.new hf i hi,by simp [M']⟩,hle,hc.mono hE,fun off=>a.im_none off⟩
  ·rintro i k rfl eg;simp [Heap.get_set]at eg
  ·rintro i k rfl eg;simp [Heap.get_set]at eg
 exact⟨M',hmain.1,hmain.2,by simp [M'],by simp [M']⟩
theorem e4R{n:Nat}(hn:h.get n= .free)(nb:NewBlk w w' (.map #[] 0)):
  ∃M',Inv M' (h.set n (.map [])) w'/\Pres w.heap.size M h w M' (h.set n (.map [])) w'/\M'.loc n=some w.heap.size:=by
 obtain⟨r1,r2⟩:=a.resv n hn;have hlt:=a.res_lt hn
 let M':Meta:= {M with loc:=fun i=>if i=n then some w.heap.size else M.loc i }
 have hE:Ext M M':=⟨h1D _,fun i c x=>by
  simp only [M'];rw [if_neg];exact x;intro e;subst e;rw [r1]at x;simp at x,fun _ _ _ x=>x,fun c k x=>x,fun _ _=>h1D _,fun _ _ _=>rfl⟩
 have hmain:Inv M' (h.set n (.map [])) w'/\Pres w.heap.size M h w M' (h.set n (.map [])) w':=by
  refine UpdS.done (S:=fun j=>j=n) (tb:=w.heap.size) ?_ a;refine {
   get:=fun j hj=>by rw [Heap.get_set,if_neg hj],loc:=fun j hj=>by simp [M',show j≠n from hj],tip:=fun _ _=>rfl,cur:=fun _ _=>rfl,heap:=fun k hk' _=>nb.old k hk',im:=fun _ _ _=>rfl,bsz:=fun c hc=>rfl,size:=(by rw [nb.size];omega),
   os:=nb.os,tape:=nb.tape,output:=nb.output,own:= .inr rfl,wb:=?_,one:=fun i i' e e' _ _=>e.trans e'.symm,ext:=hE,nid:=a.nid,fresh:=?_,freshl:=?_,imtb:=?_,bsztb:=?_,cells:=?_,tips:=?_,maps:=?_,resv:=fun i hi e=>by subst hi;simp [Heap.get_set]at e }
  ·rintro i c rfl ew;simp [Wb,Heap.get_set,M']at ew;exact ew.symm
  ·intro j hj;have hj':h.next<=j:=hj;rw [Heap.get_set,if_neg (by omega)];exact a.fresh j hj'
  ·intro j hj;have hj':h.next<=j:=hj;simp only [M'];rw [if_neg (by omega)];exact a.freshl j hj'
  ·intro off v e;have e':M.im w.heap.size off=some v:=e;rw [a.im_none]at e';simp at e'
  ·intro k e;rw [nb.size];omega
  ·rintro i cs'' rfl eg;simp [Heap.get_set]at eg
  ·rintro i k rfl eg;simp [Heap.get_set]at eg
  ·rintro i es rfl eg;simp [Heap.get_set]at eg;subst eg;exact⟨#[],0,by simp [M'],nb.new,⟨cW.nil _,cW.nil _⟩,Brn.nil⟩
 exact⟨M',hmain.1,hmain.2,by simp [M']⟩
theorem e4S{n:Nat}(hn:h.get n= .free){rc:Array Value}{el:TypeId}{fz:Nat×Nat}(nb:NewBlk w w' (.cells rc el fz))(hf:fz.2<=fz.1\/rc.size<=fz.1){cs:List IV}{len sz cap:Nat}(hl:cs.length=len*sz)(h0:0<cs.length)(hlen:len<=cap)(hcap:cap*sz<=rc.size)
  (hc:eB M cs (rc.toList.take cs.length)):
  ∃M',Inv M' (h.set n (.tip (len*sz))) w'/\Pres w.heap.size M h w M' (h.set n (.tip (len*sz))) w'/\VR M' (.vslice (some n) (len*sz) len sz cs) (.slice (some ⟨w.heap.size,0,none⟩) len cap):=by
 obtain⟨r1,r2⟩:=a.resv n hn;have hlt:=a.res_lt hn;have hle:cs.length<=rc.size:=by
  have:len*sz<=cap*sz:=h2Q _ hlen;omega
 let M':Meta:= {M with tip:=fun i=>if i=n then cs.length else M.tip i,cur:=fun i=>if i=n then(w.heap.size,cs.length)else M.cur i,im:=fun b o=>if b=w.heap.size then(if o<cs.length then rc[o]? else none)else M.im b o,bsz:=fun b=>if b=w.heap.size then some rc.size else M.bsz b }
 have hE:Ext M M':=⟨h1D _,fun _ _ x=>x,fun c o v x=>by
  simp only [M'];rw [if_neg (by have:=a.im_lt x;omega)];exact x,fun c k x=>by
  simp only [M'];rw [if_neg (by have:=a.bsz c k x;omega)];exact x,fun i _=>by
  simp only [M']
  by_cases e:i=n
  ·rw [if_pos e,e,r2];exact h1N _
  ·rw [if_neg e];exact h1D _,fun i _ q=>by
  simp only [M']at q⊢
  by_cases e:i=n
  ·rw [if_pos e,e,r2]at q;omega
  ·rw [if_neg e]⟩
 rw [<-hl];have hmain:Inv M' (h.set n (.tip cs.length)) w'/\Pres w.heap.size M h w M' (h.set n (.tip cs.length)) w':=by
  refine UpdS.done (S:=fun j=>j=n) (tb:=w.heap.size) ?_ a;refine {
   get:=fun j hj=>by rw [Heap.get_set,if_neg hj],loc:=fun j hj=>rfl,tip:=fun j hj=>by simp [M',show j≠n from hj],cur:=fun j hj=>by simp [M',show j≠n from hj],heap:=fun k hk' _=>nb.old k hk',im:=fun c o hc=>by simp [M',hc],bsz:=fun c hc=>by simp [M',hc],size:=(by rw [nb.size];omega),
   os:=nb.os,tape:=nb.tape,output:=nb.output,own:= .inr rfl,wb:=?_,one:=fun i i' e e' _ _=>e.trans e'.symm,ext:=hE,nid:=a.nid,fresh:=?_,freshl:=fun j hj=>a.freshl j hj,imtb:=?_,bsztb:=?_,cells:=?_,tips:=?_,maps:=?_,resv:=fun i hi e=>by subst hi;simp [Heap.get_set]at e }
  ·rintro i c rfl ew;simp [Wb,Heap.get_set,M']at ew;exact ew.symm
  ·intro j hj;have hj':h.next<=j:=hj;rw [Heap.get_set,if_neg (by omega)];exact a.fresh j hj'
  ·intro off v e;simp only [M',if_true]at e;split at e
   ·simp only [World.cell?,nb.new,h3S,h1X,if_false];exact e
   ·simp at e
  ·intro k e;rw [nb.size];omega
  ·rintro i cs'' rfl eg;simp [Heap.get_set]at eg
  ·rintro i k rfl eg;simp [Heap.get_set]at eg;subst eg;exact⟨by simp [M'],cs.length,rc,by simp [M'],⟨⟨el,fz,nb.new⟩,fun i hi=>iP nb.new hf i hi,by simp [M']⟩,hle,fun off ho=>by simp [M'];omega⟩
  ·rintro i es rfl eg;simp [Heap.get_set]at eg
 refine⟨M',hmain.1,hmain.2,?_⟩;have hc':=hc.mono hE;refine .vslice ⟨w.heap.size,0,none⟩ (fun i=>rc.getD i undef) hl hlen (.inr ⟨rfl,rc.size,by simp [M'],by simpa using hcap⟩) ?_ ?_ hc'.2 ?_ (by simp)
 ·intro i hi;simp [M',hi,show i<rc.size by omega]
 ·intro i hi;have:=hc'.1.2 i hi (by simp;omega);simpa [show i<rc.size by omega]using this
 ·intro i e;simp at e;subst e;exact⟨by show n<M.nid;rw [a.nid];exact hlt,h1D _,by simp [M'],fun _=> .inr (by simp [M'])⟩
end
end Go.Pv
end
end
