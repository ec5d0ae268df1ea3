/-
  Texts of this proof, one after the other.
  Conditions: none.
-/
import Derived.Test.YtkonebkblgemkaaGreatW1
set_option linter.unusedVariables false
set_option linter.unusedSimpArgs false
set_option maxRecDepth 100000
set_option maxHeartbeats 4000000
noncomputable section
variable{i j m b:Nat}{x y z u v:Int}{h g:Go.Pv.Heap}{c d l:List Go.Pv.IV}{K L:Y12}{p s t:Go.Pv.IV}{D:Go.Pv.Meta}{V W:List Go.Value}{T U:Go.TypeId}{o:Bool}{X Y:Go.Value}{O:Go.Oper}{N:Y10}{H:Array Go.Value}
section
namespace Go.Pv
namespace PT
variable {α:Type}
theorem Yx(n:Nat): ∀(t:PT α)(k j:Nat)(x:Option α),k<n->(J4 n t k x).get j=if j=k then x else t.get j:=by
 induction n with
 |zero=>intro t k j x h;omega
 |succ n ih=>
  intro t k j x h;have i: ∀j,j%2=1->t.get j=t.left.get ((j-1)/2):=by
   intro j g
   cases t with
   |nil=>rfl
   |node l v r=>simp [get,left,show j≠0 by omega,g]
  have p: ∀j,j≠0->j%2=0->t.get j=t.right.get ((j-2)/2):=by
   intro j h0 g
   cases t with
   |nil=>rfl
   |node l v r=>simp [get,right,h0,g]
  have u:t.get 0=t.val:=by
   cases t with
   |nil=>rfl
   |node l v r=>simp [get,val]
  unfold J4
  by_cases hk:k=0
  ·subst hk;simp only [if_true,get]
   by_cases g:j=0
   ·simp [g]
   ·by_cases hj2:j%2=1
    ·simp [g,hj2,i j hj2]
    ·simp [g,hj2,p j g IM]
  ·rw [if_neg hk]
   by_cases hk2:k%2=1
   ·rw [if_pos hk2];simp only [get]
    by_cases g:j=0
    ·subst g;simp [u,show¬ (0=k) by omega]
    ·rw [if_neg g]
     by_cases hj2:j%2=1
     ·rw [if_pos hj2,ih _ _ _ _ IM,i j hj2]
      by_cases e:j=k
      ·simp [e]
      ·rw [if_neg IM,if_neg e]
     ·rw [if_neg hj2,if_neg IM,p j g IM]
   ·rw [if_neg hk2];simp only [get]
    by_cases g:j=0
    ·subst g;simp [u,show¬ (0=k) by omega]
    ·rw [if_neg g]
     by_cases hj2:j%2=1
     ·rw [if_pos hj2,if_neg IM,i j hj2]
     ·rw [if_neg hj2,ih _ _ _ _ IM,p j g IM]
      by_cases e:j=k
      ·simp [e]
      ·rw [if_neg IM,if_neg e]
theorem get_set(t:PT α)(k j:Nat)(x:Option α):(t.set k x).get j=if j=k then x else t.get j:=Yx _ _ _ _ _ IM
theorem get_filt(f:α->Bool): ∀(t:PT α)(j:Nat),(t.filt f).get j=match t.get j with|some x=>if f x then some x else none|none=>none
 |nil,j=>rfl
 |node l v r,j=>by
  unfold filt get
  by_cases hj:j=0
  ·simp only [hj,if_true]<;>cases v<;>rfl
  ·by_cases hj2:j%2=1
   ·simp [hj,hj2,get_filt f l]
   ·simp [hj,hj2,get_filt f r]
theorem wF: ∀(n m:Nat)(t:PT α)(j k:Nat)(x y:Option α),j≠k->J4 n (J4 m t j x) k y=J4 m (J4 n t k y) j x
 |0,m,t,j,k,x,y,_=>by cases m<;>rfl
 |n+1,0,t,j,k,x,y,_=>rfl
 |n+1,m+1,t,j,k,x,y,hjk=>by
  simp only [J4]
  by_cases hj:j=0
  ·have g:k≠0:=fun e=>hjk IM
   by_cases hk2:k%2=1<;>simp [hj,g,hk2,left,right,val]
  ·by_cases g:k=0
   ·by_cases hj2:j%2=1<;>simp [hj,g,hj2,left,right,val]
   ·by_cases hj2:j%2=1<;>by_cases hk2:k%2=1<;>simp [hj,g,hj2,hk2,left,right,val]
    ·exact wF n m _ _ _ _ _ IM
    ·exact wF n m _ _ _ _ _ IM
theorem set_comm(t:PT α){j k:Nat}(x y:Option α)(h:j≠k):(t.set j x).set k y=(t.set k y).set j x:=wF _ _ _ _ _ _ _ h
end PT
theorem Heap.set_comm(h:Heap){j k:Nat}(x y:IObj)(e:j≠k):(h.set j x).set k y=(h.set k y).set j x:=by
 simp only [Heap.set,PT.set_comm _ _ _ e]
theorem Heap.get_set(h:Heap)(id j:Nat)(x:IObj):(h.set id x).get j=if j=id then x else h.get j:=by
 simp only [Heap.get,Heap.set,PT.get_set];split<;>rfl
theorem Heap.get_push(h:Heap)(j:Nat)(x:IObj):(h.push x).get j=if j=h.next then x else h.get j:=by
 simp only [Heap.get,Heap.push,PT.get_set];split<;>rfl
theorem Heap.next_set(h:Heap)(id:Nat)(x:IObj):(h.set id x).next=h.next:=rfl
theorem Heap.next_push(h:Heap)(x:IObj):(h.push x).next=h.next+1:=rfl
structure Blk(M:Meta)(w:World)(b:Nat)(rc:Array Value):Prop where
 at_: ∃el fz,w.heap[b]?=some (.cells rc el fz)
 free: ∀i,i<rc.size->w.frozen? ⟨b,i,none⟩=false
 bsz:M.bsz b=some rc.size
def Iq(ents:Array MapEntry)(clock:Nat):Prop:=clock=ents.size/\∀(j:Nat)(e:MapEntry),ents[j]?=some e->e.born=j
theorem Iq.nil:Iq #[] 0:=⟨rfl,fun j e h=>by simp at h⟩
theorem Iq.push{ents:Array MapEntry}{clock:Nat}(b:Iq ents clock)(k v:Value):Iq (ents.push {key:=k,val:=v,born:=clock }) (clock+1):=by
 obtain⟨g,h2⟩:=b;refine⟨by simp [g],fun j e h=>?_⟩;rw [FG]at h;split at h
 ·rename_i i;simp only [AC]at h;rw [<-h,i];exact g
 ·exact h2 j e h
theorem Iq.modify{ents:Array MapEntry}{clock:Nat}(b:Iq ents clock)(i:Nat)(g:MapEntry->MapEntry)(p: ∀e,(g e).born=e.born):Iq (ents.modify i g) clock:=by
 obtain⟨l,h2⟩:=b;refine⟨by simp [l],fun j e h=>?_⟩;rw [DS]at h;split at h
 ·obtain⟨x,u,z⟩:=AD.1 h;rw [<-z,p];exact h2 j x u
 ·exact h2 j e h
def sL(M:Meta)(g:List (IV×IV))(ents:List MapEntry):Prop:=cX M (g.map (·.1)) (ents.map (·.key))/\cX M (g.map (·.2)) (ents.map (·.val))
def Wb(M:Meta)(h:Heap)(id:Nat):Y10:=
 match h.get id with
 | .cells _=>M.loc id
 | .map _=>M.loc id
 | .tip _=>some (M.cur id).1
 | .dead=>none
 | .free=>none
def Wr(M:Meta)(h:Heap)(b:Nat):Prop:= ∃id,Wb M h id=some b
structure Inv(M:Meta)(h:Heap)(w:World):Prop where
 nid:M.nid=h.next
 fresh: ∀id,h.next<=id->h.get id= .dead
 freshl: ∀id,h.next<=id->M.loc id=none
 cells: ∀id cs,h.get id= .cells cs-> ∃b rc,M.loc id=some b/\Blk M w b rc/\cs.length<=rc.size/\eB M cs (rc.toList.take cs.length)/\∀o,M.im b o=none
 tips: ∀id n,h.get id= .tip n->M.tip id=n/\∃b e rc,M.cur id=(b,e)/\Blk M w b rc/\e<=rc.size/\∀o,e<=o->M.im b o=none
 maps: ∀id es,h.get id= .map es-> ∃b ents clock,M.loc id=some b/\w.heap[b]?=some (.map ents clock)/\sL M es ents.toList/\Iq ents clock
 im: ∀b o v,M.im b o=some v->w.cell? ⟨b,o,none⟩=some v
 bsz: ∀b n,M.bsz b=some n->b<w.heap.size
 one: ∀id id' b,Wb M h id=some b->Wb M h id'=some b->id=id'
 resv: ∀id,h.get id= .free->M.loc id=none/\M.tip id=0
structure Pres(B:Nat)(M:Meta)(h:Heap)(w:World)(M':Meta)(h':Heap)(w':World):Prop where
 ext:Ext M M'
 size:w.heap.size<=w'.heap.size
 os:w'.os=w.os
 tape:w'.tape=w.tape
 output:w'.output=w.output
 keep: ∀b,b<B-> ¬Wr M h b->w'.heap[b]?=w.heap[b]?/\¬Wr M' h' b/\∀o,M'.im b o=M.im b o
theorem Pres.refl(B:Nat)(M:Meta)(h:Heap)(w:World):Pres B M h w M h w:=⟨Ext.refl M,AJ _,rfl,rfl,rfl,fun _ _ g=>⟨rfl,g,fun _=>rfl⟩⟩
theorem Pres.trans{B:Nat}{g i j:Meta}{l h2 p:Heap}{z A D:World}(a:Pres B g l z i h2 A)(b:Pres B i h2 A j p D):Pres B g l z j p D where
 ext:=a.ext.trans b.ext
 size:=BK a.size b.size
 os:=b.os.trans a.os
 tape:=b.tape.trans a.tape
 output:=b.output.trans a.output
 keep:=fun k u G=>by
  obtain⟨K,L,O⟩:=a.keep k u G;obtain⟨T,V,X⟩:=b.keep k u L;exact⟨T.trans K,V,fun o=>(X o).trans (O o)⟩
theorem Pres.mono{B g:Nat}{M M':Meta}{h h':Heap}{w w':World}(a:Pres B M h w M' h' w')(i:g<=B):Pres g M h w M' h' w':=
 {a with keep:=fun k j l=>a.keep k (AI j i) l }
theorem Inv.drew{M:Meta}{h:Heap}{w:World}(a:Inv M h w):Inv M h w.drew where
 nid:=a.nid
 fresh:=a.fresh
 freshl:=a.freshl
 cells:=fun id cs e=>by
  obtain⟨b,rc,g,h2,i⟩:=a.cells id cs e;exact⟨b,rc,g,⟨h2.at_,h2.free,h2.bsz⟩,i⟩
 tips:=fun id n e=>by
  obtain⟨h0,b,e',rc,g,h2,i⟩:=a.tips id n e;exact⟨h0,b,e',rc,g,⟨h2.at_,h2.free,h2.bsz⟩,i⟩
 maps:=a.maps
 im:=a.im
 bsz:=a.bsz
 one:=a.one
 resv:=a.resv
theorem sL.mono{M M':Meta}(i:Ext M M'){g:List (IV×IV)}{ents:List MapEntry}(h:sL M g ents):sL M' g ents:=⟨h.1.mono i,h.2.mono i⟩
theorem jV{w w':World}{b g i:Nat}(h:w'.heap[g]?=w.heap[b]?):w'.frozen? ⟨g,i,none⟩=w.frozen? ⟨b,i,none⟩:=by
 simp only [World.frozen?,h]
theorem mO{w w':World}{b i:Nat}(h:w'.heap[b]?=w.heap[b]?):w'.cell? ⟨b,i,none⟩=w.cell? ⟨b,i,none⟩:=by
 simp only [World.cell?,h]
theorem cW{w:World}{b:Nat}{o:Obj}(h:w.heap[b]?=some o):b<w.heap.size:=by
 obtain⟨g,_⟩:=GZ.1 h;exact g
theorem Blk.lt{M:Meta}{w:World}{b:Nat}{rc:Array Value}(h:Blk M w b rc):b<w.heap.size:=by
 obtain⟨g,fz,h⟩:=h.at_;exact cW h
theorem Blk.keep{M M':Meta}{w w':World}{b:Nat}{rc:Array Value}(h:Blk M w b rc)(g:w'.heap[b]?=w.heap[b]?)(hs:M'.bsz b=M.bsz b):Blk M' w' b rc:=by
 obtain⟨j,fz,l⟩:=h.at_;exact⟨⟨j,fz,g.trans l⟩,fun i hi=>(jV g).trans (h.free i hi),hs.trans h.bsz⟩
theorem Inv.wb_lt{M:Meta}{h:Heap}{w:World}(a:Inv M h w){id b:Nat}(e:Wb M h id=some b):b<w.heap.size:=by
 unfold Wb at e
 cases hg:h.get id with
 |cells cs=>
  obtain⟨i,rc,g,h2,_⟩:=a.cells id cs hg;simp [hg]at e;rw [g]at e;simp at e;subst e;exact h2.lt
 |free=>simp [hg]at e
 |map es=>
  obtain⟨i,ents,c,g,h2,_⟩:=a.maps id es hg;simp [hg]at e;rw [g]at e;simp at e;subst e;exact cW h2
 |tip n=>
  obtain⟨_,i,e',rc,g,h2,_⟩:=a.tips id n hg;simp [hg]at e;rw [g]at e;simp at e;subst e;exact h2.lt
 |dead=>simp [hg]at e
structure NewBlk(w w':World)(o:Obj):Prop where
 new:w'.heap[w.heap.size]?=some o
 old: ∀b,b<w.heap.size->w'.heap[b]?=w.heap[b]?
 size:w'.heap.size=w.heap.size+1
 os:w'.os=w.os
 tape:w'.tape=w.tape
 output:w'.output=w.output
theorem NewBlk.alloc(w:World)(o:Obj):NewBlk w (w.alloc o) o where
 new:=by show(w.heap.push o)[w.heap.size]?=_;simp
 old:=fun b g=>by show(w.heap.push o)[b]?=_;rw [FG,if_neg IM]
 size:=IP
 os:=rfl
 tape:=rfl
 output:=rfl
structure Fresh1(M M':Meta)(h:Heap)(w:World):Prop where
 loc: ∀i,i≠h.next->M'.loc i=M.loc i
 tip: ∀i,i≠h.next->M'.tip i=M.tip i
 cur: ∀i,i≠h.next->M'.cur i=M.cur i
 im: ∀b o,b≠w.heap.size->M'.im b o=M.im b o
 bsz: ∀b,b≠w.heap.size->M'.bsz b=M.bsz b
 nid:M'.nid=M.nid+1
theorem Fresh1.wb{M M':Meta}{h:Heap}{w:World}{x:IObj}(f:Fresh1 M M' h w){id:Nat}(hi:id≠h.next):Wb M' (h.push x) id=Wb M h id:=by
 have g:(h.push x).get id=h.get id:=by rw [Heap.get_push,if_neg hi]
 simp only [Wb,g,f.loc id hi,f.cur id hi]
section
variable {M:Meta} {h:Heap} {w w':World} (a:Inv M h w)
include a
theorem Inv.im_lt{b o:Nat}{v:Value}(e:M.im b o=some v):b<w.heap.size:=by
 have:=a.im b o v e;unfold World.cell? at this;split at this
 ·rename_i c _ _ g;exact cW g
 ·simp at this
theorem Fresh1.ext{M':Meta}(f:Fresh1 M M' h w):Ext M M' where
 nid:=by have:=f.nid;omega
 loc:=fun id b e=>by
  by_cases hi:id=h.next
  ·have:=a.freshl id IM;rw [this]at e;simp at e
  ·rw [f.loc id hi];exact e
 im:=fun b o v e=>by rw [f.im b o (by have:=a.im_lt e;omega)];exact e
 bsz:=fun b n e=>by rw [f.bsz b (by have:=a.bsz b n e;omega)];exact e
 tip:=fun i hi=>by rw [f.tip i (by have:=a.nid;omega)];exact AJ _
 cur:=fun i hi _=>by rw [f.cur i (by have:=a.nid;omega)]
theorem Fresh1.inv{M':Meta}{x:IObj}{o:Obj}(f:Fresh1 M M' h w)(p:NewBlk w w' o)
  (hlt: ∀i,h.next<i->M'.loc i=none) (hwb:Wb M' (h.push x) h.next=some w.heap.size)
  (him: ∀g v,M'.im w.heap.size g=some v->w'.cell? ⟨w.heap.size,g,none⟩=some v)
  (hc: ∀cs,x= .cells cs-> ∃rc,M'.loc h.next=some w.heap.size/\Blk M' w' w.heap.size rc/\cs.length<=rc.size/\eB M' cs (rc.toList.take cs.length)/\∀g,M'.im w.heap.size g=none)
  (ht: ∀n,x= .tip n->M'.tip h.next=n/\∃e rc,M'.cur h.next=(w.heap.size,e)/\Blk M' w' w.heap.size rc/\e<=rc.size/\∀g,e<=g->M'.im w.heap.size g=none)
  (hm: ∀D,x= .map D-> ∃ents clock,M'.loc h.next=some w.heap.size/\w'.heap[w.heap.size]?=some (.map ents clock)/\sL M' D ents.toList/\Iq ents clock) (hx:x≠ .free:=by simp):
  Inv M' (h.push x) w'/\Pres w.heap.size M h w M' (h.push x) w':=by
 have K:=f.ext a;refine⟨?_,?_⟩
 ·refine⟨?_,?_,?_,?_,?_,?_,?_,?_,?_,?_⟩
  ·rw [f.nid,a.nid,Heap.next_push]
  ·intro id u;rw [Heap.next_push]at u;rw [Heap.get_push,if_neg IM];exact a.fresh id IM
  ·intro id u;rw [Heap.next_push]at u;exact hlt id IM
  ·intro id cs e
   by_cases hi:id=h.next
   ·subst hi;rw [Heap.get_push,if_pos rfl]at e;obtain⟨rc,j,h2⟩:=hc cs e;exact⟨_,rc,j,h2⟩
   ·rw [Heap.get_push,if_neg hi]at e;obtain⟨b,rc,j,h2,A,G,L⟩:=a.cells id cs e;have l:=h2.lt;exact⟨b,rc,(f.loc id hi).trans j,h2.keep (p.old b l) (f.bsz b IM),A,G.mono K,fun g=>(f.im b g IM).trans (L g)⟩
  ·intro id n e
   by_cases hi:id=h.next
   ·subst hi;rw [Heap.get_push,if_pos rfl]at e;obtain⟨h0,e',rc,j,h2⟩:=ht n e;exact⟨h0,_,e',rc,j,h2⟩
   ·rw [Heap.get_push,if_neg hi]at e;obtain⟨h0,b,e',rc,j,h2,A,G⟩:=a.tips id n e;have l:=h2.lt;exact⟨(f.tip id hi).trans h0,b,e',rc,(f.cur id hi).trans j,h2.keep (p.old b l) (f.bsz b IM),A,fun g T=>(f.im b g IM).trans (G g T)⟩
  ·intro id D e
   by_cases hi:id=h.next
   ·subst hi;rw [Heap.get_push,if_pos rfl]at e;obtain⟨ents,c,j,h2⟩:=hm D e;exact⟨_,ents,c,j,h2⟩
   ·rw [Heap.get_push,if_neg hi]at e;obtain⟨b,ents,c,j,h2,A⟩:=a.maps id D e;exact⟨b,ents,c,(f.loc id hi).trans j,(p.old b (cW h2)).trans h2,A.1.mono K,A.2⟩
  ·intro b g v e
   by_cases l:b=w.heap.size
   ·subst l;exact him g v e
   ·rw [f.im b g l]at e;rw [mO (p.old b (a.im_lt e))];exact a.im b g v e
  ·intro b n e;rw [p.size]
   by_cases l:b=w.heap.size
   ·omega
   ·rw [f.bsz b l]at e;have:=a.bsz b n e;omega
  ·intro id z b e e'
   by_cases hi:id=h.next
   ·by_cases hi':z=h.next
    ·omega
    ·rw [f.wb hi']at e';subst hi;rw [hwb]at e;simp at e;have:=a.wb_lt e';omega
   ·rw [f.wb hi]at e
    by_cases hi':z=h.next
    ·subst hi';rw [hwb]at e';simp at e';have:=a.wb_lt e;omega
    ·rw [f.wb hi']at e';exact a.one id z b e e'
  ·intro id e
   by_cases hi:id=h.next
   ·subst hi;rw [Heap.get_push,if_pos rfl]at e;exact absurd e hx
   ·rw [Heap.get_push,if_neg hi]at e;rw [f.loc id hi,f.tip id hi];exact a.resv id e
 ·refine⟨K,by rw [p.size];omega,p.os,p.tape,p.output,?_⟩;intro b l O;refine⟨p.old b l,?_,fun g=>f.im b g IM⟩;rintro⟨id,e⟩
  by_cases hi:id=h.next
  ·subst hi;rw [hwb]at e;simp at e;omega
  ·rw [f.wb hi]at e;exact O ⟨id,e⟩
end
end Go.Pv
end
section
namespace Go.Pv
structure UpdS(S:Nat->Prop)(tb:Nat)(M:Meta)(h:Heap)(w:World)(M':Meta)(h':Heap)(w':World):Prop where
 get: ∀j,¬S j->h'.get j=h.get j
 loc: ∀j,¬S j->M'.loc j=M.loc j
 tip: ∀j,¬S j->M'.tip j=M.tip j
 cur: ∀j,¬S j->M'.cur j=M.cur j
 heap: ∀b,b<w.heap.size->b≠tb->w'.heap[b]?=w.heap[b]?
 im: ∀b o,b≠tb->M'.im b o=M.im b o
 bsz: ∀b,b≠tb->M'.bsz b=M.bsz b
 size:w.heap.size<=w'.heap.size
 os:w'.os=w.os
 tape:w'.tape=w.tape
 output:w'.output=w.output
 own:(∃i,S i/\Wb M h i=some tb) \/tb=w.heap.size
 wb: ∀i b,S i->Wb M' h' i=some b->b=tb
 one: ∀i i',S i->S i'->Wb M' h' i=some tb->Wb M' h' i'=some tb->i=i'
 ext:Ext M M'
 nid:M'.nid=h'.next
 fresh: ∀id,h'.next<=id->h'.get id= .dead
 freshl: ∀id,h'.next<=id->M'.loc id=none
 imtb: ∀off v,M'.im tb off=some v->w'.cell? ⟨tb,off,none⟩=some v
 bsztb: ∀n,M'.bsz tb=some n->tb<w'.heap.size
 cells: ∀i cs,S i->h'.get i= .cells cs-> ∃rc,M'.loc i=some tb/\Blk M' w' tb rc/\cs.length<=rc.size/\eB M' cs (rc.toList.take cs.length)/\∀off,M'.im tb off=none
 tips: ∀i n,S i->h'.get i= .tip n->M'.tip i=n/\∃e rc,M'.cur i=(tb,e)/\Blk M' w' tb rc/\e<=rc.size/\∀off,e<=off->M'.im tb off=none
 maps: ∀i es,S i->h'.get i= .map es-> ∃ents clock,M'.loc i=some tb/\w'.heap[tb]?=some (.map ents clock)/\sL M' es ents.toList/\Iq ents clock
 resv: ∀i,S i->h'.get i≠ .free
theorem UpdS.done{S:Nat->Prop}{tb:Nat}{M:Meta}{h:Heap}{w:World}{M':Meta}{w':World}(u:UpdS S tb M h w M' g w')(a:Inv M h w):
  Inv M' g w'/\Pres w.heap.size M h w M' g w':=by
 have O:=u.ext;have ne: ∀j b,¬S j->Wb M h j=some b->b≠tb:=by
  intro j b K e l;subst l;rcases u.own with⟨i,hi,e'⟩|e'
  ·exact K (a.one j i b e e'▸hi)
  ·have:=a.wb_lt e;omega
 have same: ∀j,¬S j->Wb M' g j=Wb M h j:=by
  intro j K;simp only [Wb,u.get j K,u.loc j K,u.cur j K]
 refine⟨⟨u.nid,u.fresh,u.freshl,?_,?_,?_,?_,?_,?_,fun id e=>?_⟩,⟨O,u.size,u.os,u.tape,u.output,?_⟩⟩
 ·intro id cs e
  by_cases hi:S id
  ·obtain⟨rc,A,h2⟩:=u.cells id cs hi e;exact⟨tb,rc,A,h2⟩
  ·rw [u.get id hi]at e;obtain⟨b,rc,A,h2,G,L,X⟩:=a.cells id cs e;have l:b≠tb:=ne id b hi (by simp [Wb,e,A]);exact⟨b,rc,(u.loc id hi).trans A,h2.keep (u.heap b h2.lt l) (u.bsz b l),G,L.mono O,fun p=>(u.im b p l).trans (X p)⟩
 ·intro id n e
  by_cases hi:S id
  ·obtain⟨h0,e',rc,A,h2⟩:=u.tips id n hi e;exact⟨h0,tb,e',rc,A,h2⟩
  ·rw [u.get id hi]at e;obtain⟨h0,b,e',rc,A,h2,G,L⟩:=a.tips id n e;have l:b≠tb:=ne id b hi (by simp [Wb,e,A]);exact⟨(u.tip id hi).trans h0,b,e',rc,(u.cur id hi).trans A,h2.keep (u.heap b h2.lt l) (u.bsz b l),G,fun p Y=>(u.im b p l).trans (L p Y)⟩
 ·intro id T e
  by_cases hi:S id
  ·obtain⟨ents,c,A,h2⟩:=u.maps id T hi e;exact⟨tb,ents,c,A,h2⟩
  ·rw [u.get id hi]at e;obtain⟨b,ents,c,A,h2,G⟩:=a.maps id T e;have l:b≠tb:=ne id b hi (by simp [Wb,e,A]);exact⟨b,ents,c,(u.loc id hi).trans A,(u.heap b (cW h2) l).trans h2,G.1.mono O,G.2⟩
 ·intro b p v e
  by_cases l:b=tb
  ·subst l;exact u.imtb p v e
  ·rw [u.im b p l]at e;rw [mO (u.heap b (a.im_lt e) l)];exact a.im b p v e
 ·intro b n e
  by_cases l:b=tb
  ·subst l;exact u.bsztb n e
  ·rw [u.bsz b l]at e;have:=a.bsz b n e;have:=u.size;omega
 ·intro id z b e e'
  by_cases hi:S id
  ·have l:=u.wb id b hi e;subst l
   by_cases hi':S z
   ·exact u.one id z hi hi' e e'
   ·rw [same z hi']at e';exact absurd rfl (ne z b hi' e')
  ·rw [same id hi]at e
   by_cases hi':S z
   ·have l:=u.wb z b hi' e';exact absurd l (ne id b hi e)
   ·rw [same z hi']at e';exact a.one id z b e e'
 ·by_cases hi:S id
  ·exact absurd e (u.resv id hi)
  ·rw [u.get id hi]at e;rw [u.loc id hi,u.tip id hi];exact a.resv id e
 ·intro b l V;have D:b≠tb:=by
   intro e;subst e;rcases u.own with⟨i,hi,e'⟩|e'
   ·exact V ⟨i,e'⟩
   ·omega
  refine⟨u.heap b l D,?_,fun p=>u.im b p D⟩;rintro⟨id,e⟩
  by_cases hi:S id
  ·exact D (u.wb id b hi e)
  ·rw [same id hi]at e;exact V ⟨id,e⟩
section
variable {M:Meta} {h:Heap} {w w':World} (a:Inv M h w)
theorem hU{rc:Array Value}{fz:Nat×Nat}{b:Nat}(g:w'.heap[b]?=some (.cells rc T fz))(hf:fz.2<=fz.1\/rc.size<=fz.1)(i:Nat)(hi:i<rc.size):w'.frozen? ⟨b,i,none⟩=false:=by
 obtain⟨lo,j⟩:=fz;simp only [World.frozen?,g];simp only at hf;simp;omega
include a
theorem wG{rc:Array Value}{z:TypeId}{fz:Nat×Nat}(u:NewBlk w w' (.cells rc z fz))(hf:fz.2<=fz.1\/rc.size<=fz.1){cs:Y14}(p:cs.length<=rc.size)(G:eB M cs (rc.toList.take cs.length)):
  ∃M',Inv M' (h.push (.cells cs)) w'/\Pres w.heap.size M h w M' (h.push (.cells cs)) w'/\M'.loc h.next=some w.heap.size/\M'.bsz w.heap.size=some rc.size:=by
 let M':Meta:= {M with nid:=M.nid+1,loc:=fun i=>if i=h.next then some w.heap.size else M.loc i,bsz:=fun b=>if b=w.heap.size then some rc.size else M.bsz b }
 have l:Fresh1 M M' h w:=⟨fun i hi=>by simp [M',hi],fun _ _=>rfl,fun _ _=>rfl,fun _ _ _=>rfl,fun b D=>by simp [M',D],rfl⟩;have j: ∀g,M.im w.heap.size g=none:=by
  intro g
  cases e:M.im w.heap.size g with
  |none=>rfl
  |some v=>have:=a.im_lt e;omega
 have A:=l.ext a;have:=l.inv a (x:= .cells cs) u (fun i hi=>by simp [M',show i≠h.next by omega,a.freshl i IM])
  (by simp [Wb,Heap.get_push,M']) (fun g v e=>by simp [M',j]at e)
  (fun cs' e=>by
   simp at e;subst e;exact⟨rc,by simp [M'],⟨⟨z,fz,u.new⟩,fun i hi=>hU u.new hf i hi,by simp [M']⟩,p,G.mono A,j⟩)
  (fun n e=>by simp at e) (fun K e=>by simp at e)
 exact⟨M',this.1,this.2,by simp [M'],by simp [M']⟩
theorem b3G{rc:Array Value}{G:TypeId}{fz:Nat×Nat}(u:NewBlk w w' (.cells rc G fz))(hf:fz.2<=fz.1\/rc.size<=fz.1){cs:Y14}{len sz cap:Nat}(K:cs.length=len*sz)(g:len<=cap)(l:cap*sz<=rc.size)
  (hc:eB M cs (rc.toList.take cs.length)):
  ∃M',Inv M' (h.push (.tip (len*sz))) w'/\Pres w.heap.size M h w M' (h.push (.tip (len*sz))) w'/\VR M' (.vslice (some h.next) (len*sz) len sz cs) (.slice (some ⟨w.heap.size,0,none⟩) len cap):=by
 have A:cs.length<=rc.size:=by
  have:len*sz<=cap*sz:=CE _ g;omega
 let M':Meta:= {M with nid:=M.nid+1,tip:=fun i=>if i=h.next then cs.length else M.tip i,cur:=fun i=>if i=h.next then(w.heap.size,cs.length)else M.cur i,im:=fun b o=>if b=w.heap.size then(if o<cs.length then rc[o]? else none)else M.im b o,bsz:=fun b=>if b=w.heap.size then some rc.size else M.bsz b }
 have p:Fresh1 M M' h w:=⟨fun _ _=>rfl,fun i hi=>by simp [M',hi],fun i hi=>by simp [M',hi],fun b o z=>by simp [M',z],fun b z=>by simp [M',z],rfl⟩;have L:=p.ext a;rw [<-K];have:=p.inv a (x:= .tip cs.length) u (fun i hi=>a.freshl i IM)
  (by simp [Wb,Heap.get_push,M']) (fun D v e=>by
   simp only [M',if_true]at e;split at e
   ·simp only [World.cell?,u.new,DI,BA,if_false];exact e
   ·simp at e)
  (fun cs' e=>by simp at e)
  (fun n e=>by
   simp at e;subst e;exact⟨by simp [M'],cs.length,rc,by simp [M'],⟨⟨G,fz,u.new⟩,fun i hi=>hU u.new hf i hi,by simp [M']⟩,A,fun D T=>by simp [M'];omega⟩)
  (fun O e=>by simp at e)
 refine⟨M',this.1,this.2,?_⟩;have j:=hc.mono L;refine .vslice ⟨w.heap.size,0,none⟩ (fun i=>rc.getD i undef) K g (.inr ⟨rfl,rc.size,by simp [M'],by simpa using l⟩) ?_ ?_ j.2 ?_ IP
 ·intro i hi;simp [M',hi,show i<rc.size by omega]
 ·intro i hi;have:=j.1.2 i hi (by simp;omega);simpa [show i<rc.size by omega]using this
 ·intro i e;simp at e;subst e;exact⟨by show h.next<M.nid+1;rw [a.nid];omega,AJ _,by simp [M'],fun _=> .inr (by simp [M'])⟩
theorem b3H{rc:Array Value}{D:TypeId}{fz:Nat×Nat}(l:NewBlk w w' (.cells rc D fz)){cs:Y14}{len sz:Nat}(K:cs.length=len*sz)(h0:0<sz)(p:eB M cs rc.toList):
  ∃M',Inv M' h w'/\Pres w.heap.size M h w M' h w'/\VR M' (.vslice none 1 len sz cs) (.slice (some ⟨w.heap.size,0,none⟩) len len):=by
 have L:rc.size=cs.length:=by have:=p.len;simpa using this.symm
 let M':Meta:= {M with im:=fun b o=>if b=w.heap.size then rc[o]? else M.im b o,bsz:=fun b=>if b=w.heap.size then some rc.size else M.bsz b }
 have z:Ext M M':=⟨AJ _,fun _ _ x=>x,fun c o v x=>by
  simp only [M'];rw [if_neg (by have:=a.im_lt x;omega)];exact x,fun c A x=>by
  simp only [M'];rw [if_neg (by have:=a.bsz c A x;omega)];exact x,fun _ _=>AJ _,fun _ _ _=>rfl⟩
 have g:Inv M' h w'/\Pres w.heap.size M h w M' h w':=by
  refine UpdS.done (S:=fun _=>False) (tb:=w.heap.size) ?_ a;refine {
   get:=fun _ _=>rfl,loc:=fun _ _=>rfl,tip:=fun _ _=>rfl,cur:=fun _ _=>rfl,heap:=fun j G _=>l.old j G,im:=fun c o p=>by simp [M',p],bsz:=fun c p=>by simp [M',p],size:=(by rw [l.size];omega),
   os:=l.os,tape:=l.tape,output:=l.output,own:= .inr rfl,wb:=fun _ _ hf=>hf.elim,one:=fun _ _ hf=>hf.elim,ext:=z,nid:=a.nid,fresh:=a.fresh,freshl:=a.freshl,imtb:=?_,bsztb:=?_,cells:=fun _ _ hf=>hf.elim,tips:=fun _ _ hf=>hf.elim,maps:=fun _ _ hf=>hf.elim,resv:=fun _ hf=>hf.elim }
  ·intro O v x;simp only [M',if_true]at x;simp only [World.cell?,l.new,DI,BA,if_false];exact x
  ·intro A x;rw [l.size];omega
 refine⟨M',g.1,g.2,?_⟩;have u:=p.mono z;refine .vslice ⟨w.heap.size,0,none⟩ (fun i=>rc.getD i undef) K (AJ _) (.inr ⟨rfl,rc.size,by simp [M'],by simp;omega⟩) ?_ ?_ u.2 IP (fun _=> .inr ⟨rfl,rfl,h0⟩)
 ·intro i hi;simp [M',show i<rc.size by omega]
 ·intro i hi;have:=u.1.2 i hi (by simp;omega);simpa [show i<rc.size by omega]using this
theorem b3I(p:NewBlk w w' (.map #[] 0)): ∃M',Inv M' (h.push (.map [])) w'/\Pres w.heap.size M h w M' (h.push (.map [])) w'/\M'.loc h.next=some w.heap.size:=by
 let M':Meta:= {M with nid:=M.nid+1,loc:=fun i=>if i=h.next then some w.heap.size else M.loc i }
 have l:Fresh1 M M' h w:=⟨fun i hi=>by simp [M',hi],fun _ _=>rfl,fun _ _=>rfl,fun _ _ _=>rfl,fun _ _=>rfl,rfl⟩;have j: ∀g,M.im w.heap.size g=none:=by
  intro g
  cases e:M.im w.heap.size g with
  |none=>rfl
  |some v=>have:=a.im_lt e;omega
 have:=l.inv a (x:= .map []) p (fun i hi=>by simp [M',show i≠h.next by omega,a.freshl i IM])
  (by simp [Wb,Heap.get_push,M']) (fun g v e=>by simp [M',j]at e)
  (fun cs' e=>by simp at e) (fun n e=>by simp at e)
  (fun u e=>by simp at e;subst e;exact⟨#[],0,by simp [M'],p.new,⟨cX.nil _,cX.nil _⟩,Iq.nil⟩)
 exact⟨M',this.1,this.2,by simp [M']⟩
theorem L1{id b:Nat}{cs cs':Y14}(u:h.get id= .cells cs)(p:M.loc id=some b)(K: ∀k,k≠b->w'.heap[k]?=w.heap[k]?)(hs:w'.heap.size=w.heap.size)
  (hr:w'.os=w.os/\w'.tape=w.tape/\w'.output=w.output) (hB:Blk M w' b H) (hle:cs'.length<=H.size) (hc:eB M cs' (H.toList.take cs'.length)):
  Inv M (h.set id (.cells cs')) w'/\Pres w.heap.size M h w M (h.set id (.cells cs')) w':=by
 obtain⟨O,rc,z,h2,T,V,G⟩:=a.cells id cs u;rw [p]at z;simp at z;subst z;refine UpdS.done (S:=fun j=>j=id) (tb:=b) ?_ a;refine {
  get:=fun j l=>by rw [Heap.get_set,if_neg l],loc:=fun _ _=>rfl,tip:=fun _ _=>rfl,cur:=fun _ _=>rfl,heap:=fun k _ A=>K k A,im:=fun _ _ _=>rfl,bsz:=fun _ _=>rfl,size:=IM,
  os:=hr.1,tape:=hr.2.1,output:=hr.2.2,own:= .inl ⟨id,rfl,by simp [Wb,u,p]⟩,wb:=?_,one:=fun i X e e' _ _=>e.trans e'.symm,ext:=Ext.refl M,nid:=a.nid,fresh:=?_,freshl:=a.freshl,imtb:=?_,bsztb:=?_,cells:=?_,tips:=?_,maps:=?_,resv:=fun i hi e=>by subst hi;simp [Heap.get_set]at e }
 ·intro i k e ew;subst e;simp [Wb,Heap.get_set,p]at ew;exact ew.symm
 ·intro j l;rw [Heap.next_set]at l;rw [Heap.get_set,if_neg]
  ·exact a.fresh j l
  ·intro e;subst e;rw [a.fresh j l]at u;simp at u
 ·intro L v e;rw [G]at e;simp at e
 ·intro n e;exact hs▸a.bsz b n e
 ·intro i D e g;subst e;simp [Heap.get_set]at g;subst g;exact⟨H,p,hB,hle,hc,G⟩
 ·intro i n e g;subst e;simp [Heap.get_set]at g
 ·intro i n e g;subst e;simp [Heap.get_set]at g
theorem S2{id b:Nat}{K es':List (IV×IV)}{ents:Array MapEntry}{clock:Nat}(u:h.get id= .map K)(p:M.loc id=some b)(O: ∀k,k≠b->w'.heap[k]?=w.heap[k]?)(hs:w'.heap.size=w.heap.size)
  (hr:w'.os=w.os/\w'.tape=w.tape/\w'.output=w.output) (hB:w'.heap[b]?=some (.map ents clock)) (hc:sL M es' ents.toList/\Iq ents clock):
  Inv M (h.set id (.map es')) w'/\Pres w.heap.size M h w M (h.set id (.map es')) w':=by
 obtain⟨T,z,V,A,h2,X⟩:=a.maps id K u;rw [p]at A;simp at A;subst A;refine UpdS.done (S:=fun j=>j=id) (tb:=b) ?_ a;refine {
  get:=fun j l=>by rw [Heap.get_set,if_neg l],loc:=fun _ _=>rfl,tip:=fun _ _=>rfl,cur:=fun _ _=>rfl,heap:=fun k _ D=>O k D,im:=fun _ _ _=>rfl,bsz:=fun _ _=>rfl,size:=IM,
  os:=hr.1,tape:=hr.2.1,output:=hr.2.2,own:= .inl ⟨id,rfl,by simp [Wb,u,p]⟩,wb:=?_,one:=fun i Y e e' _ _=>e.trans e'.symm,ext:=Ext.refl M,nid:=a.nid,fresh:=?_,freshl:=a.freshl,imtb:=?_,bsztb:=?_,cells:=?_,tips:=?_,maps:=?_,resv:=fun i hi e=>by subst hi;simp [Heap.get_set]at e }
 ·intro i k e ew;subst e;simp [Wb,Heap.get_set,p]at ew;exact ew.symm
 ·intro j l;rw [Heap.next_set]at l;rw [Heap.get_set,if_neg]
  ·exact a.fresh j l
  ·intro e;subst e;rw [a.fresh j l]at u;simp at u
 ·intro G v e;have:=a.im b G v e;simp [World.cell?,h2]at this
 ·intro n e;exact hs▸a.bsz b n e
 ·intro i n e g;subst e;simp [Heap.get_set]at g
 ·intro i n e g;subst e;simp [Heap.get_set]at g
 ·intro i L e g;subst e;simp [Heap.get_set]at g;subst g;exact⟨ents,clock,p,hB,hc⟩
theorem Yy{id e k b g:Nat}{rc p:Array Value}(K:h.get id= .tip e)(D:M.cur id=(b,g))(hB:Blk M w b rc)(A: ∃L fz,w'.heap[b]?=some (.cells p L fz))(Y: ∀i,i<p.size->w'.frozen? ⟨b,i,none⟩=false)
  (hsz:p.size=rc.size) (hpos:g+k<=rc.size) (hold: ∀i,i<g->p[i]?=rc[i]?) (hk0:0<k)
  (hk: ∀j,j≠b->w'.heap[j]?=w.heap[j]?) (hs:w'.heap.size=w.heap.size) (hr:w'.os=w.os/\w'.tape=w.tape/\w'.output=w.output):
  ∃M',Inv M' (h.set id (.tip (e+k))) w'/\Pres w.heap.size M h w M' (h.set id (.tip (e+k))) w'/\M'.tip id=e+k/\M'.cur id=(b,g+k)/\M'.nid=M.nid/\M'.bsz=M.bsz/\
   (∀i,i<k->M'.im b (g+i)=p[g+i]?):=by
 obtain⟨h0,b',e',a3,O,h2,h3,T⟩:=a.tips id e K;rw [D]at O;simp at O;obtain⟨rfl,rfl⟩:=O;obtain⟨L,fz,A⟩:=A
 let M':Meta:= {M with tip:=fun i=>if i=id then e+k else M.tip i,cur:=fun i=>if i=id then(b,g+k)else M.cur i,im:=fun c o=>if c=b/\g<=o/\o<g+k then p[o]? else M.im c o }
 have Z:id<h.next:=by
  rcases BC id h.next with hl|hl
  ·exact hl
  ·rw [a.fresh id hl]at K;simp at K
 have hE:Ext M M':=⟨AJ _,fun _ _ x=>x,fun c o v x=>by
  simp only [M'];split
  ·rename_i X;obtain⟨rfl,q1,q2⟩:=X;rw [T o q1]at x;simp at x
  ·exact x,fun _ _ x=>x,fun i hi=>by
   simp only [M'];split
   ·rename_i e;subst e;omega
   ·exact AJ _,fun i hi ht=>by
   simp only [M']at ht⊢;split at ht
   ·rename_i e;subst e;omega
   ·rename_i e;rw [if_neg e]⟩
 refine⟨M',?_⟩;have u:Inv M' (h.set id (.tip (e+k))) w'/\Pres w.heap.size M h w M' (h.set id (.tip (e+k))) w':=by
  refine UpdS.done (S:=fun j=>j=id) (tb:=b) ?_ a;refine {
   get:=fun j z=>by rw [Heap.get_set,if_neg z],loc:=fun _ _=>rfl,tip:=fun j z=>by simp [M',z],cur:=fun j z=>by simp [M',z],heap:=fun j _ z=>hk j z,im:=fun c o X=>by simp [M',X],bsz:=fun _ _=>rfl,size:=IM,
   os:=hr.1,tape:=hr.2.1,output:=hr.2.2,own:= .inl ⟨id,rfl,by simp [Wb,K,D]⟩,wb:=?_,one:=fun i i' e e' _ _=>e.trans e'.symm,ext:=hE,nid:=a.nid,fresh:=?_,freshl:=a.freshl,imtb:=?_,bsztb:=?_,cells:=?_,tips:=?_,maps:=?_,resv:=fun i hi e=>by subst hi;simp [Heap.get_set]at e }
  ·intro i c e ew;subst e;simp [Wb,Heap.get_set,M']at ew;exact ew.symm
  ·intro j z;rw [Heap.next_set]at z;rw [Heap.get_set,if_neg IM];exact a.fresh j z
  ·intro l v x;simp only [M']at x;simp only [World.cell?,A,DI,BA,if_false];split at x
   ·exact x
   ·have:=a.im b l v x;have a0:l<g:=by
     rcases BC l g with q|q
     ·exact q
     ·rw [T l q]at x;simp at x
    obtain⟨a1,a2,V⟩:=hB.at_;simp only [World.cell?,V,DI,BA,if_false]at this;rw [hold l a0];exact this
  ·intro n x;exact hs▸a.bsz b n x
  ·intro i n e G;subst e;simp [Heap.get_set]at G
  ·intro i n e G;subst e;simp [Heap.get_set]at G;subst G;refine⟨by simp [M'],g+k,p,by simp [M'],⟨⟨L,fz,A⟩,Y,by show M.bsz b=_;rw [hB.bsz,hsz]⟩,IM,fun l ho=>?_⟩;simp only [M'];rw [if_neg IM];exact T l IM
  ·intro i n e G;subst e;simp [Heap.get_set]at G
 refine⟨u.1,u.2,by simp [M'],by simp [M'],rfl,rfl,fun i hi=>?_⟩;simp only [M'];rw [if_pos ⟨trivial,IM,IM⟩]
theorem b3J{id e k n:Nat}{rc:Array Value}{fz:Nat×Nat}(A:h.get id= .tip e)(p:NewBlk w w' (.cells rc T fz))(hf:fz.2<=fz.1\/rc.size<=fz.1)(Y:n<=rc.size)(X:0<k):
  ∃M',Inv M' (h.set id (.tip (e+k))) w'/\Pres w.heap.size M h w M' (h.set id (.tip (e+k))) w'/\M'.tip id=e+k/\M'.cur id=(w.heap.size,n)/\M'.nid=M.nid/\M'.bsz w.heap.size=some rc.size/\
   (∀i,i<n->M'.im w.heap.size i=rc[i]?):=by
 obtain⟨h0,b',e',Z,h1,h2,h3,h4⟩:=a.tips id e A
 let M':Meta:= {M with tip:=fun i=>if i=id then e+k else M.tip i,cur:=fun i=>if i=id then(w.heap.size,n)else M.cur i,im:=fun c o=>if c=w.heap.size then(if o<n then rc[o]? else none)else M.im c o,bsz:=fun b=>if b=w.heap.size then some rc.size else M.bsz b }
 have D:id<h.next:=by
  rcases BC id h.next with G|G
  ·exact G
  ·rw [a.fresh id G]at A;simp at A
 have V:Ext M M':=⟨AJ _,fun _ _ x=>x,fun c o v x=>by
  simp only [M'];rw [if_neg (by have:=a.im_lt x;omega)];exact x,fun c K x=>by
  simp only [M'];rw [if_neg (by have:=a.bsz c K x;omega)];exact x,fun i hi=>by
   simp only [M'];split
   ·rename_i e;subst e;omega
   ·exact AJ _,fun i hi O=>by
   simp only [M']at O⊢;split at O
   ·rename_i e;subst e;omega
   ·rename_i e;rw [if_neg e]⟩
 refine⟨M',?_⟩;have g:Inv M' (h.set id (.tip (e+k))) w'/\Pres w.heap.size M h w M' (h.set id (.tip (e+k))) w':=by
  refine UpdS.done (S:=fun j=>j=id) (tb:=w.heap.size) ?_ a;refine {
   get:=fun j l=>by rw [Heap.get_set,if_neg l],loc:=fun _ _=>rfl,tip:=fun j l=>by simp [M',l],cur:=fun j l=>by simp [M',l],heap:=fun j l _=>p.old j l,im:=fun c o z=>by simp [M',z],bsz:=fun c z=>by simp [M',z],size:=(by rw [p.size];omega),
   os:=p.os,tape:=p.tape,output:=p.output,own:= .inr rfl,wb:=?_,one:=fun i i' e e' _ _=>e.trans e'.symm,ext:=V,nid:=a.nid,fresh:=?_,freshl:=a.freshl,imtb:=?_,bsztb:=?_,cells:=?_,tips:=?_,maps:=?_,resv:=fun i hi e=>by subst hi;simp [Heap.get_set]at e }
  ·intro i c e ew;subst e;simp [Wb,Heap.get_set,M']at ew;exact ew.symm
  ·intro j l;rw [Heap.next_set]at l;rw [Heap.get_set,if_neg IM];exact a.fresh j l
  ·intro L v x;simp only [M',if_true]at x;simp only [World.cell?,p.new,DI,BA,if_false];split at x
   ·exact x
   ·simp at x
  ·intro K x;rw [p.size];omega
  ·intro i n e u;subst e;simp [Heap.get_set]at u
  ·intro i K e u;subst e;simp [Heap.get_set]at u;subst u;exact⟨by simp [M'],n,rc,by simp [M'],⟨⟨T,fz,p.new⟩,fun i hi=>hU p.new hf i hi,by simp [M']⟩,Y,fun L ho=>by simp [M'];omega⟩
  ·intro i n e u;subst e;simp [Heap.get_set]at u
 refine⟨g.1,g.2,by simp [M'],by simp [M'],rfl,by simp [M'],fun i hi=>?_⟩;simp only [M',if_true];rw [if_pos hi]
theorem Je{id b:Nat}{cs cs':Y14}(u:h.get id= .cells cs)(X:M.loc id=some b)(Y: ∀k,k≠b->w'.heap[k]?=w.heap[k]?)(hs:w'.heap.size=w.heap.size)
  (hr:w'.os=w.os/\w'.tape=w.tape/\w'.output=w.output) (hB:Blk M w' b H) (hle:cs'.length<=H.size) (hc:eB M cs' (H.toList.take cs'.length)):
  ∃M',Inv M' ((h.set id .dead).push (.cells cs')) w'/\Pres w.heap.size M h w M' ((h.set id .dead).push (.cells cs')) w'/\M'.loc h.next=some b/\M'.bsz b=some H.size:=by
 obtain⟨b',rc,z,h2,h3,h4,T⟩:=a.cells id cs u;rw [X]at z;simp at z;subst z;have A:id<h.next:=by
  rcases BC id h.next with K|K
  ·exact K
  ·rw [a.fresh id K]at u;simp at u
 let M':Meta:= {M with nid:=M.nid+1,loc:=fun i=>if i=h.next then some b else M.loc i }
 have V:Ext M M':=⟨by simp [M'],fun i c x=>by
  simp only [M'];rw [if_neg];exact x;intro e;subst e;rw [a.freshl _ (AJ _)]at x;simp at x,fun _ _ _ x=>x,fun _ _ x=>x,fun _ _=>AJ _,fun _ _ _=>rfl⟩
 refine⟨M',?_⟩;have g: ∀j,((h.set id .dead).push (.cells cs')).get j=if j=h.next then .cells cs' else if j=id then .dead else h.get j:=by
  intro j;rw [Heap.get_push,Heap.next_set,Heap.get_set]
 have l:Inv M' ((h.set id .dead).push (.cells cs')) w'/\Pres w.heap.size M h w M' ((h.set id .dead).push (.cells cs')) w':=by
  refine UpdS.done (S:=fun j=>j=id\/j=h.next) (tb:=b) ?_ a;have O:Wb M' ((h.set id .dead).push (.cells cs')) id=none:=by simp [Wb,g,show id≠h.next by omega]
  have Z:Wb M' ((h.set id .dead).push (.cells cs')) h.next=some b:=by simp [Wb,g,M']
  refine {
   get:=fun j p=>by rw [g,if_neg (fun e=>p (.inr e)),if_neg (fun e=>p (.inl e))],loc:=fun j p=>by simp [M',show j≠h.next from fun e=>p (.inr e)],tip:=fun _ _=>rfl,cur:=fun _ _=>rfl,heap:=fun k _ G=>Y k G,im:=fun _ _ _=>rfl,bsz:=fun _ _=>rfl,size:=IM,
   os:=hr.1,tape:=hr.2.1,output:=hr.2.2,own:= .inl ⟨id,.inl rfl,by simp [Wb,u,X]⟩,wb:=?_,one:=?_,ext:=V,nid:=?_,fresh:=?_,freshl:=?_,imtb:=?_,bsztb:=?_,cells:=?_,tips:=?_,maps:=?_,resv:=fun i hi e=>by rw [g]at e;rcases hi with rfl|rfl<;>(repeat' split at e)<;>simp_all }
  ·rintro i c (rfl|rfl) ew
   ·rw [O]at ew;simp at ew
   ·rw [Z]at ew;simp at ew;exact ew.symm
  ·rintro i i' (rfl|rfl) (rfl|rfl) e1 e2
   ·rfl
   ·rw [O]at e1;simp at e1
   ·rw [O]at e2;simp at e2
   ·rfl
  ·show M.nid+1=_;rw [a.nid];rfl
  ·intro j p;have D:h.next+1<=j:=p;rw [g,if_neg IM,if_neg IM];exact a.fresh j IM
  ·intro j p;have D:h.next+1<=j:=p;simp only [M'];rw [if_neg IM];exact a.freshl j IM
  ·intro L v e;have e':M.im b L=some v:=e;rw [T]at e';simp at e'
  ·intro n e;exact hs▸a.bsz b n e
  ·rintro i cs'' (rfl|rfl) eg
   ·rw [g,if_neg IM]at eg;simp at eg
   ·rw [g,if_pos rfl]at eg;simp at eg;subst eg;exact⟨H,by simp [M'],⟨hB.at_,hB.free,hB.bsz⟩,hle,hc.mono V,T⟩
  ·rintro i n (rfl|rfl) eg
   ·rw [g,if_neg IM]at eg;simp at eg
   ·rw [g,if_pos rfl]at eg;simp at eg
  ·rintro i n (rfl|rfl) eg
   ·rw [g,if_neg IM]at eg;simp at eg
   ·rw [g,if_pos rfl]at eg;simp at eg
 exact⟨l.1,l.2,by simp [M'],hB.bsz⟩
theorem Vq{id:Nat}{cs cs':Y14}{rc:Array Value}{fz:Nat×Nat}(Z:h.get id= .cells cs)(A:NewBlk w w' (.cells rc T fz))(hf:fz.2<=fz.1\/rc.size<=fz.1)(V:cs'.length<=rc.size)(D:eB M cs' (rc.toList.take cs'.length)):
  ∃M',Inv M' ((h.set id .dead).push (.cells cs')) w'/\Pres w.heap.size M h w M' ((h.set id .dead).push (.cells cs')) w'/\M'.loc h.next=some w.heap.size/\M'.bsz w.heap.size=some rc.size:=by
 have G:id<h.next:=by
  rcases BC id h.next with O|O
  ·exact O
  ·rw [a.fresh id O]at Z;simp at Z
 let M':Meta:= {M with nid:=M.nid+1,loc:=fun i=>if i=h.next then some w.heap.size else M.loc i,bsz:=fun b=>if b=w.heap.size then some rc.size else M.bsz b }
 have Y:Ext M M':=⟨by simp [M'],fun i c x=>by
  simp only [M'];rw [if_neg];exact x;intro e;subst e;rw [a.freshl _ (AJ _)]at x;simp at x,fun _ _ _ x=>x,fun c n x=>by
  simp only [M'];rw [if_neg (by have:=a.bsz c n x;omega)];exact x,fun _ _=>AJ _,fun _ _ _=>rfl⟩
 have u: ∀p,M.im w.heap.size p=none:=by
  intro p
  cases e:M.im w.heap.size p with
  |none=>rfl
  |some v=>have:=a.im_lt e;omega
 refine⟨M',?_⟩;have g: ∀j,((h.set id .dead).push (.cells cs')).get j=if j=h.next then .cells cs' else if j=id then .dead else h.get j:=by
  intro j;rw [Heap.get_push,Heap.next_set,Heap.get_set]
 have l:Inv M' ((h.set id .dead).push (.cells cs')) w'/\Pres w.heap.size M h w M' ((h.set id .dead).push (.cells cs')) w':=by
  refine UpdS.done (S:=fun j=>j=id\/j=h.next) (tb:=w.heap.size) ?_ a;have X:Wb M' ((h.set id .dead).push (.cells cs')) id=none:=by simp [Wb,g,show id≠h.next by omega]
  have w2:Wb M' ((h.set id .dead).push (.cells cs')) h.next=some w.heap.size:=by simp [Wb,g,M']
  refine {
   get:=fun j z=>by rw [g,if_neg (fun e=>z (.inr e)),if_neg (fun e=>z (.inl e))],loc:=fun j z=>by simp [M',show j≠h.next from fun e=>z (.inr e)],tip:=fun _ _=>rfl,cur:=fun _ _=>rfl,heap:=fun k L _=>A.old k L,im:=fun _ _ _=>rfl,bsz:=fun c D=>by simp [M',D],size:=(by rw [A.size];omega),
   os:=A.os,tape:=A.tape,output:=A.output,own:= .inr rfl,wb:=?_,one:=?_,ext:=Y,nid:=?_,fresh:=?_,freshl:=?_,imtb:=?_,bsztb:=?_,cells:=?_,tips:=?_,maps:=?_,resv:=fun i hi e=>by rw [g]at e;rcases hi with rfl|rfl<;>(repeat' split at e)<;>simp_all }
  ·rintro i c (rfl|rfl) ew
   ·rw [X]at ew;simp at ew
   ·rw [w2]at ew;simp at ew;exact ew.symm
  ·rintro i i' (rfl|rfl) (rfl|rfl) e1 e2
   ·rfl
   ·rw [X]at e1;simp at e1
   ·rw [X]at e2;simp at e2
   ·rfl
  ·show M.nid+1=_;rw [a.nid];rfl
  ·intro j z;have K:h.next+1<=j:=z;rw [g,if_neg IM,if_neg IM];exact a.fresh j IM
  ·intro j z;have K:h.next+1<=j:=z;simp only [M'];rw [if_neg IM];exact a.freshl j IM
  ·intro p v e;have e':M.im w.heap.size p=some v:=e;rw [u]at e';simp at e'
  ·intro n e;rw [A.size];omega
  ·rintro i cs'' (rfl|rfl) eg
   ·rw [g,if_neg IM]at eg;simp at eg
   ·rw [g,if_pos rfl]at eg;simp at eg;subst eg;exact⟨rc,by simp [M'],⟨⟨T,fz,A.new⟩,fun i hi=>hU A.new hf i hi,by simp [M']⟩,V,D.mono Y,u⟩
  ·rintro i n (rfl|rfl) eg
   ·rw [g,if_neg IM]at eg;simp at eg
   ·rw [g,if_pos rfl]at eg;simp at eg
  ·rintro i n (rfl|rfl) eg
   ·rw [g,if_neg IM]at eg;simp at eg
   ·rw [g,if_pos rfl]at eg;simp at eg
 exact⟨l.1,l.2,by simp [M'],by simp [M']⟩
end
end Go.Pv
end
section
namespace Go.Pv
open Go
section
variable {M:Meta} {h:Heap} {w w':World} (a:Inv M h w)
include a
theorem Inv.res_lt{n:Nat}(hf:h.get n= .free):n<h.next:=by
 rcases BC n h.next with g|g
 ·exact g
 ·rw [a.fresh n g]at hf;simp at hf
theorem Inv.im_none(g:Nat):M.im w.heap.size g=none:=by
 cases e:M.im w.heap.size g with
 |none=>rfl
 |some v=>have:=a.im_lt e;omega
theorem L2{n:Nat}(V:h.get n= .free){rc:Array Value}{O:TypeId}{fz:Nat×Nat}(l:NewBlk w w' (.cells rc O fz))(hf:fz.2<=fz.1\/rc.size<=fz.1){cs:Y14}(K:cs.length<=rc.size)(D:eB M cs (rc.toList.take cs.length)):
  ∃M',Inv M' (h.set n (.cells cs)) w'/\Pres w.heap.size M h w M' (h.set n (.cells cs)) w'/\M'.loc n=some w.heap.size/\M'.bsz w.heap.size=some rc.size:=by
 obtain⟨r1,Z⟩:=a.resv n V;have X:=a.res_lt V
 let M':Meta:= {M with loc:=fun i=>if i=n then some w.heap.size else M.loc i,bsz:=fun b=>if b=w.heap.size then some rc.size else M.bsz b }
 have T:Ext M M':=⟨AJ _,fun i c x=>by
  simp only [M'];rw [if_neg];exact x;intro e;subst e;rw [r1]at x;simp at x,fun _ _ _ x=>x,fun c k x=>by
  simp only [M'];rw [if_neg (by have:=a.bsz c k x;omega)];exact x,fun _ _=>AJ _,fun _ _ _=>rfl⟩
 have g:Inv M' (h.set n (.cells cs)) w'/\Pres w.heap.size M h w M' (h.set n (.cells cs)) w':=by
  refine UpdS.done (S:=fun j=>j=n) (tb:=w.heap.size) ?_ a;refine {
   get:=fun j p=>by rw [Heap.get_set,if_neg p],loc:=fun j p=>by simp [M',show j≠n from p],tip:=fun _ _=>rfl,cur:=fun _ _=>rfl,heap:=fun k G _=>l.old k G,im:=fun _ _ _=>rfl,bsz:=fun c D=>by simp [M',D],size:=(by rw [l.size];omega),
   os:=l.os,tape:=l.tape,output:=l.output,own:= .inr rfl,wb:=?_,one:=fun i Y e e' _ _=>e.trans e'.symm,ext:=T,nid:=a.nid,fresh:=?_,freshl:=?_,imtb:=?_,bsztb:=?_,cells:=?_,tips:=?_,maps:=?_,resv:=fun i hi e=>by subst hi;simp [Heap.get_set]at e }
  ·rintro i c rfl ew;simp [Wb,Heap.get_set,M']at ew;exact ew.symm
  ·intro j p;have u:h.next<=j:=p;rw [Heap.get_set,if_neg IM];exact a.fresh j u
  ·intro j p;have u:h.next<=j:=p;simp only [M'];rw [if_neg IM];exact a.freshl j u
  ·intro z v e;have e':M.im w.heap.size z=some v:=e;rw [a.im_none]at e';simp at e'
  ·intro k e;rw [l.size];omega
  ·rintro i L rfl A;simp [Heap.get_set]at A;subst A;exact⟨rc,by simp [M'],⟨⟨O,fz,l.new⟩,fun i hi=>hU l.new hf i hi,by simp [M']⟩,K,D.mono T,fun z=>a.im_none z⟩
  ·rintro i k rfl A;simp [Heap.get_set]at A
  ·rintro i k rfl A;simp [Heap.get_set]at A
 exact⟨M',g.1,g.2,by simp [M'],by simp [M']⟩
theorem b3K{n:Nat}(K:h.get n= .free)(u:NewBlk w w' (.map #[] 0)):
  ∃M',Inv M' (h.set n (.map [])) w'/\Pres w.heap.size M h w M' (h.set n (.map [])) w'/\M'.loc n=some w.heap.size:=by
 obtain⟨r1,Y⟩:=a.resv n K;have O:=a.res_lt K
 let M':Meta:= {M with loc:=fun i=>if i=n then some w.heap.size else M.loc i }
 have L:Ext M M':=⟨AJ _,fun i c x=>by
  simp only [M'];rw [if_neg];exact x;intro e;subst e;rw [r1]at x;simp at x,fun _ _ _ x=>x,fun c k x=>x,fun _ _=>AJ _,fun _ _ _=>rfl⟩
 have g:Inv M' (h.set n (.map [])) w'/\Pres w.heap.size M h w M' (h.set n (.map [])) w':=by
  refine UpdS.done (S:=fun j=>j=n) (tb:=w.heap.size) ?_ a;refine {
   get:=fun j l=>by rw [Heap.get_set,if_neg l],loc:=fun j l=>by simp [M',show j≠n from l],tip:=fun _ _=>rfl,cur:=fun _ _=>rfl,heap:=fun k A _=>u.old k A,im:=fun _ _ _=>rfl,bsz:=fun c V=>rfl,size:=(by rw [u.size];omega),
   os:=u.os,tape:=u.tape,output:=u.output,own:= .inr rfl,wb:=?_,one:=fun i X e e' _ _=>e.trans e'.symm,ext:=L,nid:=a.nid,fresh:=?_,freshl:=?_,imtb:=?_,bsztb:=?_,cells:=?_,tips:=?_,maps:=?_,resv:=fun i hi e=>by subst hi;simp [Heap.get_set]at e }
  ·rintro i c rfl ew;simp [Wb,Heap.get_set,M']at ew;exact ew.symm
  ·intro j l;have p:h.next<=j:=l;rw [Heap.get_set,if_neg IM];exact a.fresh j p
  ·intro j l;have p:h.next<=j:=l;simp only [M'];rw [if_neg IM];exact a.freshl j p
  ·intro D v e;have e':M.im w.heap.size D=some v:=e;rw [a.im_none]at e';simp at e'
  ·intro k e;rw [u.size];omega
  ·rintro i G rfl z;simp [Heap.get_set]at z
  ·rintro i k rfl z;simp [Heap.get_set]at z
  ·rintro i T rfl z;simp [Heap.get_set]at z;subst z;exact⟨#[],0,by simp [M'],u.new,⟨cX.nil _,cX.nil _⟩,Iq.nil⟩
 exact⟨M',g.1,g.2,by simp [M']⟩
theorem b3L{n:Nat}(hn:h.get n= .free){rc:Array Value}{Y:TypeId}{fz:Nat×Nat}(p:NewBlk w w' (.cells rc Y fz))(hf:fz.2<=fz.1\/rc.size<=fz.1){cs:Y14}{len sz cap:Nat}(hl:cs.length=len*sz)(h0:0<cs.length)(u:len<=cap)(G:cap*sz<=rc.size)
  (A:eB M cs (rc.toList.take cs.length)):
  ∃M',Inv M' (h.set n (.tip (len*sz))) w'/\Pres w.heap.size M h w M' (h.set n (.tip (len*sz))) w'/\VR M' (.vslice (some n) (len*sz) len sz cs) (.slice (some ⟨w.heap.size,0,none⟩) len cap):=by
 obtain⟨r1,r2⟩:=a.resv n hn;have T:=a.res_lt hn;have O:cs.length<=rc.size:=by
  have:len*sz<=cap*sz:=CE _ u;omega
 let M':Meta:= {M with tip:=fun i=>if i=n then cs.length else M.tip i,cur:=fun i=>if i=n then(w.heap.size,cs.length)else M.cur i,im:=fun b o=>if b=w.heap.size then(if o<cs.length then rc[o]? else none)else M.im b o,bsz:=fun b=>if b=w.heap.size then some rc.size else M.bsz b }
 have Z:Ext M M':=⟨AJ _,fun _ _ x=>x,fun c o v x=>by
  simp only [M'];rw [if_neg (by have:=a.im_lt x;omega)];exact x,fun c k x=>by
  simp only [M'];rw [if_neg (by have:=a.bsz c k x;omega)];exact x,fun i _=>by
  simp only [M']
  by_cases e:i=n
  ·rw [if_pos e,e,r2];exact AR _
  ·rw [if_neg e];exact AJ _,fun i _ q=>by
  simp only [M']at q⊢
  by_cases e:i=n
  ·rw [if_pos e,e,r2]at q;omega
  ·rw [if_neg e]⟩
 rw [<-hl];have g:Inv M' (h.set n (.tip cs.length)) w'/\Pres w.heap.size M h w M' (h.set n (.tip cs.length)) w':=by
  refine UpdS.done (S:=fun j=>j=n) (tb:=w.heap.size) ?_ a;refine {
   get:=fun j l=>by rw [Heap.get_set,if_neg l],loc:=fun j l=>rfl,tip:=fun j l=>by simp [M',show j≠n from l],cur:=fun j l=>by simp [M',show j≠n from l],heap:=fun k L _=>p.old k L,im:=fun c o A=>by simp [M',A],bsz:=fun c A=>by simp [M',A],size:=(by rw [p.size];omega),
   os:=p.os,tape:=p.tape,output:=p.output,own:= .inr rfl,wb:=?_,one:=fun i i' e e' _ _=>e.trans e'.symm,ext:=Z,nid:=a.nid,fresh:=?_,freshl:=fun j l=>a.freshl j l,imtb:=?_,bsztb:=?_,cells:=?_,tips:=?_,maps:=?_,resv:=fun i hi e=>by subst hi;simp [Heap.get_set]at e }
  ·rintro i c rfl ew;simp [Wb,Heap.get_set,M']at ew;exact ew.symm
  ·intro j l;have K:h.next<=j:=l;rw [Heap.get_set,if_neg IM];exact a.fresh j K
  ·intro V v e;simp only [M',if_true]at e;split at e
   ·simp only [World.cell?,p.new,DI,BA,if_false];exact e
   ·simp at e
  ·intro k e;rw [p.size];omega
  ·rintro i X rfl z;simp [Heap.get_set]at z
  ·rintro i k rfl z;simp [Heap.get_set]at z;subst z;exact⟨by simp [M'],cs.length,rc,by simp [M'],⟨⟨Y,fz,p.new⟩,fun i hi=>hU p.new hf i hi,by simp [M']⟩,O,fun V ho=>by simp [M'];omega⟩
  ·rintro i es rfl z;simp [Heap.get_set]at z
 refine⟨M',g.1,g.2,?_⟩;have D:=A.mono Z;refine .vslice ⟨w.heap.size,0,none⟩ (fun i=>rc.getD i undef) hl u (.inr ⟨rfl,rc.size,by simp [M'],by simpa using G⟩) ?_ ?_ D.2 ?_ IP
 ·intro i hi;simp [M',hi,show i<rc.size by omega]
 ·intro i hi;have:=D.1.2 i hi (by simp;omega);simpa [show i<rc.size by omega]using this
 ·intro i e;simp at e;subst e;exact⟨by show n<M.nid;rw [a.nid];exact T,AJ _,by simp [M'],fun _=> .inr (by simp [M'])⟩
end
end Go.Pv
end
section
namespace Go.Pv
section
variable {M:Meta} {h:Heap} {w:World}
theorem Inv.row(a:Inv M h w){id:Nat}{cs:Y14}(u:h.get id= .cells cs): ∃b rc,M.loc id=some b/\Blk M w b rc/\cs.length<=rc.size/\eB M cs (rc.toList.take cs.length)/\At w b 0 (rc.toList.take cs.length):=by
 obtain⟨b,rc,g,h2,j,l,A⟩:=a.cells id cs u;refine⟨b,rc,g,h2,j,l,fun i hi=>?_⟩;obtain⟨z,fz,p⟩:=h2.at_;simp at hi;simp [World.cell?,p,show i<rc.size by omega]
theorem sL.uncons{k v:IV}{j:List (IV×IV)}{ents:List MapEntry}(h:sL M ((k,v)::j) ents): ∃e r,ents=e::r/\VR M k e.key/\VR M v e.val/\sL M j r:=by
 obtain⟨l,h2⟩:=h
 cases ents with
 |nil=>simp [cX]at l
 |cons e r=>
  obtain⟨_,_,g,p,u⟩:=cX.uncons l;obtain⟨_,_,i,z,A⟩:=cX.uncons h2;simp at g i;obtain⟨rfl,rfl⟩:=g;obtain⟨rfl,rfl⟩:=i;exact⟨e,r,rfl,p,z,u,A⟩
theorem sL.cons{k v:IV}{g:List (IV×IV)}{e:MapEntry}{r:List MapEntry}(i:VR M k e.key)(j:VR M v e.val)(h:sL M g r):sL M ((k,v)::g) (e::r):=
 ⟨cX.cons i h.1,cX.cons j h.2⟩
theorem sL.len{g:List (IV×IV)}{ents:List MapEntry}(h:sL M g ents):g.length=ents.length:=by simpa using h.1.1
theorem jB{d:TypeDesc}{x y:IV}{r:Bool}{a b:Value}(h:dR d x y=some r)(i:VR M x a)(j:VR M y b):Instr.sameNow d a b=some r/\(r=true->x=y/\a=b/\∀n,Instr.sameBits n b a=true):=by
 unfold dR at h;split at h
 ·simp at h;subst h;cases i;cases j;refine⟨rfl,fun e=>?_⟩;simp at e;subst e;exact⟨rfl,rfl,fun n=>by cases n<;>simp [Instr.sameBits]⟩
 ·split at h
  ·rename_i z;simp at h;subst h;subst z;cases i;cases j;refine⟨by simp [Instr.sameNow],fun e=>?_⟩;simp at e;subst e;exact⟨rfl,rfl,fun n=>by cases n<;>simp [Instr.sameBits]⟩
  ·simp at h
 ·simp at h;subst h
  cases i with|str g=>cases j with|str l=>
  refine⟨?_,fun e=>?_⟩
  ·simp only [Instr.sameNow];rw [beq_toListBytes,ByteArray.toList_eq,ByteArray.toList_eq]
  ·have e':g.data.toList=l.data.toList:=by simpa using e
   have p:g=l:=by
    obtain⟨⟨A⟩⟩:=g;obtain⟨⟨D⟩⟩:=l;simp at e';subst e';rfl
   subst p;have u:(g==g)=true:=by rw [beq_toListBytes];simp
   exact⟨rfl,rfl,fun n=>by cases n<;>simp [Instr.sameBits,u]⟩
 ·simp at h
def qE(g j:TypeId)(k:Value)(i:Bool)(ents:Array MapEntry):Sem Value:=do
 Instr.checkKey ents.isEmpty 10000 g k
 match<-Instr.findKey g k ents.toList with
 |some (_,v)=>pure (if i then .tuple #[v,.bool true]else v)
 |none=>do
  let z<-zeroValue j
  pure (if i then .tuple #[z,.bool false]else z)
theorem rO{d:TypeDesc}{k:IV}(l:VR M k X): ∀{g:List (IV×IV)}{ents:List MapEntry}{r:Option IV}(i:Nat),sL M g ents->eV d k g=some r->
  match r with
  |some v=> ∃j rv,Instr.findNow d X ents i=some (some (j,rv))/\VR M v rv
  |none=>Instr.findNow d X ents i=some none
 | [],ents,r,i,hm,h=>by
  have:ents=[]:=by have:=hm.len;simpa using this.symm
  subst this;simp [eV]at h;subst h;rfl
 | (x,v)::g,ents,r,i,hm,h=>by
  obtain⟨e,q,rfl,p,z,h2⟩:=hm.uncons;unfold eV at h;split at h
  ·rename_i hs;simp at h;subst h;have:=(jB hs l p).1;exact⟨i,e.val,by simp [Instr.findNow,this],z⟩
  ·rename_i hs;have:=(jB hs l p).1;have u:=rO l (i+1) h2 h;simpa [Instr.findNow,this]using u
  ·simp at h
theorem oL{P:Program}{d:TypeDesc}{k:IV}{emp:Bool}(i:P.underlying T=some d)(hf:lX d k=true)(g:VR M k X)(w:World)(n:Nat):(Instr.checkKey emp (n+1) T X).run P w= .ok () w:=by
 unfold lX at hf;split at hf
 ·cases g;simp [Instr.checkKey,run_underlying i]
 ·cases g;simp [Instr.checkKey,run_underlying i]
 ·cases g;simp [Instr.checkKey,run_underlying i]
 ·simp at hf
section
variable {E:Env} {o:Oper} {ev:Operand->Option TV} {ρ:Operand->Value} {pb:Nat->Nat}
theorem b3M(a:Inv M h w)(hev: ∀x tv,ev x=some tv->TR M pb tv (ρ x)){tv:TV}(g:dO E o ev h=some tv):
  ∃x r,tv= .v x/\(execOp ρ o).run E.P w= .ok (.value r) w/\VR M x r:=by
 unfold dO at g
 cases hop:o.op with
 |load t ad=>
  simp only [hop]at g;split at g
  case h_2=>simp at g
  rename_i id u ha;split at g
  case h_2=>simp at g
  rename_i cs T;obtain⟨v,h1,h2⟩:=AD.1 g;subst h2;have p:VR M (.ptr id u) (ρ ad):=hev _ _ ha;generalize hρ:ρ ad=ra at p
  cases p with
  | @ptr _ _ b hl=>
   obtain⟨b',rc,L,l2,l3,l4,l5⟩:=a.row T;rw [hl]at L;simp at L;subst L;obtain⟨r,h3,h4⟩:=uA (P:=E.P) l4 l5 h1;exact⟨_,r,rfl,by simp only [execOp,hop,hρ,Instr.loadAt,Instr.sureAddr];exact cG _ _ (by simpa using h3),h4⟩
 |convert s d x=>
  simp only [hop]at g;split at g
  case h_2=>simp at g
  rename_i e id u len hs hd hx;split at g
  case h_2=>simp at g
  rename_i cs he T;split at g
  case isFalse=>simp at g
  rename_i b5;obtain⟨b,h1,h2⟩:=AD.1 g;subst h2;have p:=bH hev hx;generalize hρ:ρ x=ra at p;obtain⟨b',rc,L,l2,l3,l4,l5⟩:=a.row T
  cases p with
  | @hslice _ _ _ _ cap b0 ad hl had hlen=>
   rw [hl]at L;simp at L;subst L;refine⟨_,.string ⟨b.toArray⟩,rfl,?_,Yv b⟩;simp only [execOp,hop,hρ];refine cG _ _ ?_;rw [run_convert_bytes_string w s d e _ _ _ hs he hd];have hc:=(l4.drop u).take len;have A:((rc.toList.take cs.length|>.drop u).take len).length=len:=by simp;omega
   have:=mZ (P:=E.P) w (a:=ad) (cap:=cap) hc.1 h1 ?_
   ·rw [A]at this;exact this
   ·rw [A]
    by_cases h0:len=0
    ·subst h0;simp [loadCells,loadCellsFrom]
    ·obtain⟨rfl,_⟩:=had.resolve_left IM;have:=uD (P:=E.P) w (b:=b0) (base:=u) (rc:=(rc.toList.take cs.length|>.drop u).take len) (fun i hi=>by
      have b1:=hi;rw [A]at b1;have:=l5 (u+i) (by simp;omega);simpa using this)
     rw [A]at this;exact this
 |slice t x lo hi mx=>
  simp only [hop]at g;split at g
  case h_2=>simp at g
  rename_i n e id u hu hx;split at g
  case h_2=>simp at g
  rename_i cs sz T b7;split at g
  case isFalse=>simp at g
  rename_i b5;obtain⟨⟨l,k⟩,h1,h2⟩:=AD.1 g;subst h2;have p:VR M (.ptr id u) (ρ x):=hev _ _ hx;generalize hρ:ρ x=ra at p;obtain⟨b',rc,L,l2,l3,l4,l5⟩:=a.row T;obtain⟨i,b2,b3⟩:=dN b7
  cases p with
  | @ptr _ _ b0 hl=>
   rw [hl]at L;simp at L;subst L;obtain⟨c1,c2,c3⟩:=iR (P:=E.P) (isSlice:=false) w (AJ n) (uF hev lo) (uF hev hi) h1;have a0:VR M (.hslice id u n (sz+1)) (.slice (some ⟨b0,u,none⟩) n n):= .hslice _ hl (.inr ⟨rfl,rc.size,l2.bsz,IM⟩) (AJ n);have a4:=sK a0 c1 c2;refine⟨_,_,rfl,?_,a4⟩;simp only [execOp,hop,hρ];refine cG _ _ ?_;simp only [Instr.sliceAt,AU,run_underlying hu,AL,Instr.sureAddr,AZ,HT,c3,cM b2,b3,DN];split<;>rfl
 |lookup t x k ok=>
  simp only [hop]at g;split at g
  case h_2=>simp at g
  rename_i kt et m c5 hu hm hk;split at g
  case h_2=>simp at g
  rename_i d es hd D;split at g
  case isFalse=>simp at g
  rename_i b4;have V:=bH hev hm;have a8:=bH hev hk;have a5: ∃ents:Array MapEntry,sL M es ents.toList/\(Instr.lookup t (ρ x) (ρ k) ok).run E.P w=(qE kt et (ρ k) ok ents).run E.P w:=by
   split at D
   ·simp at D;subst D;generalize ρ x=rx at V
    cases V
    exact⟨#[],⟨cX.nil _,cX.nil _⟩,by simp [Instr.lookup,qE,run_underlying hu];rfl⟩
   ·rename_i id;split at D
    case h_2=>simp at D
    rename_i es' T;simp at D;subst D;generalize ρ x=rx at V
    cases V with
    | @map _ b hl=>
     obtain⟨b',ents,clock,Z,g2,g3,_⟩:=a.maps id es' T;rw [hl]at Z;simp at Z;subst Z;refine⟨ents,g3,?_⟩;have a9:(getObj b).run E.P w= .ok (.map ents clock) w:=by simp [getObj,Sem.run,g2]
     simp [Instr.lookup,qE,run_underlying hu,a9];rfl
   ·simp at D
  obtain⟨ents,b6,Y⟩:=a5;have a3:=fun emp=>oL (M:=M) (emp:=emp) hd b4 a8 w 9999
  have X: ∀{q:Option IV}{a1:TV},eV d c5 es=some q->(match q with
    |some v=>some (TV.v (if ok then .tuple [v,.bool true]else v))
    |none=>(dB E.P et).map fun z=>TV.v (if ok then .tuple [z,.bool false]else z))=some a1-> ∃v r,a1= .v v/\(execOp ρ o).run E.P w= .ok (.value r) w/\VR M v r:=by
   intro q a1 hf K;have a6:=rO a8 0 b6 hf
   cases q with
   |some v=>
    obtain⟨j,rv,f1,f2⟩:=a6;simp at K;subst K;refine⟨_,if ok then .tuple #[rv,.bool true]else rv,rfl,?_,?_⟩
    ·simp only [execOp,hop];refine cG _ _ ?_;rw [Y];simp only [qE,AU,AL,a3,Instr.findKey,run_underlying hd,f1,AZ]
    ·cases ok
     ·simpa using f2
     ·simpa using dV (cX.cons f2 (cX.cons (.bool true) (cX.nil M)))
   |none=>
    obtain⟨z,hz,c0⟩:=AD.1 K;subst c0;obtain⟨i,r,z1,z2,z3,z4⟩:=eI (M:=M) hz;refine⟨_,if ok then .tuple #[r,.bool false]else r,rfl,?_,?_⟩
    ·simp only [execOp,hop];refine cG _ _ ?_;rw [Y];have a7:Instr.findNow d (ρ k) ents.toList 0=some none:=a6;simp only [qE,AU,AL,a3,Instr.findKey,run_underlying hd,a7,AZ,cQ w z1 z2]
    ·cases ok
     ·simpa using z3
     ·simpa using dV (cX.cons z3 (cX.cons (.bool false) (cX.nil M)))
  split at g
  ·rename_i v hf;exact X hf g
  ·rename_i hf;exact X hf g
  ·simp at g
 |call c=>
  obtain⟨O,a2,G⟩:=c;simp only [hop]at g
  cases O with
  |value x=>simp at g
  |invoke x n=>simp at g
  |builtin b=>
   cases b
   case len=>
    simp only at g;split at g
    case h_2=>simp at g
    rename_i t id ht hx;obtain⟨y,hy,b9⟩:=CJ.1 hx;have p:=bH hev b9;split at g
    case h_2=>simp at g
    rename_i kt et es hu T;simp at g;subst g;generalize hρ:ρ y=ra at p
    cases p with
    | @map _ b hl=>
     obtain⟨b',ents,clock,Z,g2,g3,_⟩:=a.maps id es T;rw [hl]at Z;simp at Z;subst Z;refine⟨_,goInt ents.size,rfl,?_,?_⟩
     ·simp only [execOp,hop,resolve,invoke,AU,AZ,AL,builtin];have:(Builtin.len_ G o.type (a2.map ρ)).run E.P w= .ok (goInt ents.size) w:=by
       simp [Builtin.len_,ht,hy,hρ,run_underlying hu,getObj,Sem.run,g2]
      simp [this]
     ·have:=g3.len;simp at this;rw [this];exact .int _ _
   all_goals simp at g
 |_=>simp [hop]at g
end
end
section
variable {M:Meta} {h:Heap} {w w':World}
theorem gA(n:Nat)(z:Y14):(fQ n z).length=n*z.length:=by
 induction n with
 |zero=>simp [fQ]
 |succ n ih=>simp only [fQ,AH,ih,DD];omega
theorem A2(z:Y14)(h0:0<z.length): ∀(n i:Nat),i<n*z.length->(fQ n z)[i]?=z[i%z.length]?
 |0,i,hi=>IM
 |n+1,i,hi=>by
  rw [DD]at hi;simp only [fQ]
  by_cases hlt:i<z.length
  ·rw [BD hlt,HK hlt]
  ·rw [BU IM,A2 z h0 n (i-z.length) IM];rw [Nat.mod_eq_sub_mod (by omega:i>=z.length)]
theorem uH(z:eB M c H.toList)(h0:0<c.length)(n:Nat):
  eB M (fQ n c) ((Array.range (n*c.length)).map (H[· %H.size]!)).toList:=by
 have u:H.size=c.length:=by have:=z.len;simpa using this.symm
 refine⟨⟨by simp [gA],fun i l h2=>?_⟩,fun i l=>?_⟩
 ·rw [gA]at l;have j:=IA i h0;have g:(fQ n c)[i]?=c[i%c.length]?:=A2 c h0 n i l;rw [AA (by rw [gA];exact l),AA j]at g;simp only [AC]at g;rw [g];have:=z.1.2 (i%c.length) j (by simp [u];exact j);simpa [u,getElem!_pos,j]using this
 ·have p:=l;rw [gA]at p;have j:=IA i h0;have g:(fQ n c)[i]?=c[i%c.length]?:=A2 c h0 n i p;rw [AA l,AA j]at g;simp only [AC]at g;rw [g];exact z.2 _ j
theorem lB{t:TypeId}{i:TypeInfo}{P:Program}(u:dB P t=some p)(hi:P.info? t=some i): ∃r,i.zero=some r/\eB M (cellsOf p) r.cells.toList:=by
 obtain⟨z,r,g,h2,j,l⟩:=eI (M:=M) u;rw [hi]at g;simp at g;subst g;exact⟨r,h2,iQ j l⟩
theorem sV(f g:Nat->Value):(Array.range 0).map f=(Array.range 0).map g:=IP
theorem qF{P:Program}(w:World){t e:TypeId}{n sz:Nat}{ps:List (Nat×IV)}{g:Array (Nat×Value)}{cs:Y14}(hu:P.underlying t=some (.slice e))(V:fX P e=some (sz+1))
  (hz:dB P e=some s) (hn:n*(sz+1)<=16777216) (hzl:(cellsOf s).length=sz+1) (hp:PR M ps g.toList) (h1:lV (fun i=>some (i*(sz+1),sz+1)) (fQ n (cellsOf s)) ps=some cs):
  ∃G:Array Value,(Instr.buildSlice t n g).run P w= .ok (.slice (some ⟨w.heap.size,0,none⟩) n n) (w.alloc (.cells G e))/\eB M cs G.toList/\cs.length=n*(sz+1):=by
 obtain⟨i,A,T⟩:=dN V;obtain⟨Z,X,Y⟩:=lB (M:=M) hz A;have z:=uH Y IM n;rw [hzl]at z;obtain⟨G,K,h6⟩:=uB hp z h1;have O:cs.length=n*(sz+1):=by
  have: ∀{j:Nat->Option (Nat×Nat)}{ps:List (Nat×IV)}{c u:Y14},lV j c ps=some u->u.length=c.length:=by
   intro j ps
   induction ps with
   |nil=>intro c u l;simp [lV]at l;rw [l]
   |cons p ps ih=>
    intro c u l;obtain⟨pi,pv⟩:=p;unfold lV at l;split at l
    ·simp at l
    ·split at l
     ·rename_i a0;rw [ih l];simp [spl];omega
     ·simp at l
  rw [this h1,gA,hzl]
 refine⟨G,?_,h6,O⟩;have D:i.size=sz+1:=T;simp only [Instr.buildSlice,AU,run_underlying hu,AL,cM A,D];rw [if_neg IM]
 by_cases hn0:n*(sz+1)=0
 ·rw [hn0]at K;rw [if_pos hn0];have L:Instr.fill (fun i=>some (i*(sz+1),sz+1)) ((Array.range (n*(sz+1))).map fun x=>(#[]:Array Value)[x% (#[]:Array Value).size]!) g.toList=some G:=by
   rw [hn0,sV _ (fun x=>Z.cells[x%Z.cells.size]!)];exact K
  simp only [AU,AZ,AL];rw [L];simp only [Go.newRow,AU,run_newObj,AL,AZ];rfl
 ·rw [if_neg hn0];simp only [AU,AZ,AL,cQ w A X];rw [K];simp only [Go.newRow,AU,run_newObj,AL,AZ];rfl
theorem nE(a:Inv M h w)(i:Nat){len sz cap:Nat}{cs:Y14}{rc:Array Value}{fz:Nat×Nat}(l:NewBlk w w' (.cells rc T fz))(hf:fz.2<=fz.1\/rc.size<=fz.1)(j:cs.length=len*sz)(g:len<=cap)
  (hcap:cap*sz<=rc.size) (hc:eB M cs (rc.toList.take cs.length)):
  ∃M',Inv M' (newRow h i len sz cs).2 w'/\Pres w.heap.size M h w M' (newRow h i len sz cs).2 w'/\VR M' (newRow h i len sz cs).1 (.slice (some ⟨w.heap.size,0,none⟩) len cap):=by
 unfold newRow
 split
 ·exact b3G a l hf j g hcap hc
 ·obtain⟨M',p,h2,u,z⟩:=wG a l hf (by rw [j];exact BK (CE _ g) hcap) hc;exact⟨M',p,h2,.hslice _ u (.inr ⟨rfl,rc.size,z,IM⟩) g⟩
theorem qG(w:World)(x:Obj):NewBlk w (w.drew.alloc x) x where
 new:=by show(w.heap.push x)[w.heap.size]?=_;simp
 old:=fun b g=>by show(w.heap.push x)[b]?=_;rw [FG,if_neg IM]
 size:=IP
 os:=rfl
 tape:=rfl
 output:=rfl
theorem S3{P:Program}(a:Inv M h w){sz n:Nat}{x:IV}{r:Value}(X:VR M x r)(hs:fL h sz x=some (n,c)):
  c.length=n*sz/\(∀w':World,(Builtin.lenOf r).run P w'= .ok n w')/\(∀i (hi:i<c.length),isCell c[i]=true)/\
  ∀m,m<=n-> ∃news:List Value,eB M (c.take (m*sz)) news/\news.length=m*sz/\(Builtin.firstCells sz m r).run P w= .ok news.toArray w/\(Builtin.firstCells sz m r).run P w.drew= .ok news.toArray w.drew:=by
 unfold fL at hs;split at hs
 ·simp at hs;obtain⟨rfl,rfl⟩:=hs
  cases X
  refine⟨IP,fun _=>rfl,fun i hi=>by simp at hi,fun m K=>?_⟩;have:m=0:=IM;subst this;exact⟨[],by simpa using eB.nil M,IP,run_firstCells_none w _ _ _ _,run_firstCells_none w.drew _ _ _ _⟩
 ·split at hs
  case isFalse=>simp at hs
  rename_i V;subst V;simp at hs;obtain⟨rfl,rfl⟩:=hs
  cases X with
  |vnil=>
   refine⟨IP,fun _=>rfl,fun i hi=>by simp at hi,fun m K=>?_⟩;have:m=0:=IM;subst this;exact⟨[],by simpa using eB.nil M,IP,run_firstCells_none w _ _ _ _,run_firstCells_none w.drew _ _ _ _⟩
  | @vslice _ _ _ _ cap _ ad rv hn hlen ha him hv hc ht hf=>
   refine⟨hn,fun _=>rfl,hc,fun m K=>?_⟩;rename_i id e len z cs;have a2:m*z<=len*z:=CE _ K;have D:eB M cs ((List.range cs.length).map rv):=⟨⟨IP,fun i p q=>by simpa using hv i p⟩,hc⟩;have g: ∀j v,(((List.range cs.length).map rv).take (m*z))[j]?=some v->w.cell? (ad.add j)=some v:=by
    intro j v u;rw [DP]at u;split at u
    ·rename_i Y;obtain⟨h1,h2⟩:=BB.1 u;simp at h1 h2;have L:cap≠0:=by
      intro e;have:len=0:=IM;subst this;simp at hn;omega
     obtain⟨T,_⟩:=ha.resolve_left L;obtain⟨ab,ao,a3⟩:=ad;simp only at T;subst T;rw [dH,<-h2];exact a.im _ _ _ (him j h1)
    ·simp at u
   have O:(((List.range cs.length).map rv).take (m*z)).length=m*z:=by simp;omega
   exact⟨_,D.take _,O,run_firstCells_some w z m ad len cap _ O g,run_firstCells_some w.drew z m ad len cap _ O (by simpa using g)⟩
 ·split at hs
  case isFalse=>simp at hs
  rename_i V;subst V;split at hs
  case h_2=>simp at hs
  rename_i cs hg;split at hs
  case isFalse=>simp at hs
  rename_i a4;simp at hs;obtain⟨rfl,rfl⟩:=hs;rename_i id l len z _;obtain⟨b',rc,l1,l2,l3,l4,l5⟩:=a.row hg
  cases X with
  | @hslice _ _ _ _ cap b ad O had hlen=>
   rw [O]at l1;simp at l1;subst l1;have a1:((cs.drop l).take (len*z)).length=len*z:=by simp;omega
   refine⟨a1,fun _=>rfl,((l4.drop l).take _).2,fun m K=>?_⟩;have a2:m*z<=len*z:=CE _ K;have g: ∀j v,((((rc.toList.take cs.length).drop l).take (len*z)).take (m*z))[j]?=some v->w.cell? (ad.add j)=some v:=by
    intro j v u;rw [DP]at u;split at u
    ·rename_i Y;obtain⟨Z,a0⟩:=lA _ _ _ _ _ u;have L:cap≠0:=by
      intro e;have:len=0:=IM;subst this;simp at Z
     obtain⟨rfl,_⟩:=had.resolve_left L;rw [dH];obtain⟨q1,q2⟩:=BB.1 a0;have:=l5 (l+j) q1;rw [q2]at this;simpa using this
    ·simp at u
   have G:((((rc.toList.take cs.length).drop l).take (len*z)).take (m*z)).length=m*z:=by simp;omega
   exact⟨_,((l4.drop l).take _).take _,G,run_firstCells_some w z m ad len cap _ G g,run_firstCells_some w.drew z m ad len cap _ G (by simpa using g)⟩
 ·split at hs
  case isFalse=>simp at hs
  rename_i V;subst V;simp at hs;obtain⟨rfl,rfl⟩:=hs
  cases X with
  |str s=>
   refine⟨IP,fun _=>by simp [Builtin.lenOf],fun i hi=>by simp [isCell],fun m K=>?_⟩;simp only [EN]at K;have D:eB M (s.data.toList.map fun b=>IV.int .u8 b.toNat) (s.data.toList.map fun b=>Value.int .u8 b.toNat):=
    ⟨⟨IP,fun i p q=>by simpa using VR.int _ _⟩,fun i p=>by simp [isCell]⟩
   have A: ∀w':World,(Builtin.firstCells 1 m (.string s)).run P w'= .ok ((s.data.toList.map fun b=>Value.int .u8 b.toNat).take (m*1)).toArray w':=by
    intro w';simp only [Builtin.firstCells,AZ]
    congr 1
    apply EL;simp [ByteArray.data_extract,FI]
   exact⟨_,D.take _,by have e:s.size=s.data.size:=rfl;simp;omega,A w,A w.drew⟩
 ·simp at hs
theorem Qa{P:Program}(a:Inv M h w){sz n:Nat}{x:IV}{r:Value}{l:TypeDesc}(p:P.underlying T=some l)(i:kM l=true)(z:VR M x r)(hs:fL h sz x=some (n,c)):
  ∃g:List Value,eB M c g/\Src P sz T r n g w:=by
 obtain⟨K,h2,L,u⟩:=S3 (P:=P) a z hs;obtain⟨g,j,A,D,G⟩:=u n (AJ _);rw [AP IM]at j;refine⟨g,j,⟨?_,h2,D,G,A,j.one⟩⟩;unfold kM at i;split at i
 ·exact .inl ⟨_,p⟩
 ·exact .inr p
 ·simp at i
end
end Go.Pv
end
section
namespace Go.Pv
open Go
def lC(h:Heap)(n g len sz:Nat)(cs:Y14):IV×Heap:=(sR n g len sz cs,h.set n (oG g len sz cs))
theorem yE{M:Meta}{h:Heap}{w w':World}(a:Inv M h w){n:Nat}(j:h.get n= .free)(i:Nat){len sz cap:Nat}{cs:Y14}(h0:i=0->0<cs.length){rc:Array Value}{fz:Nat×Nat}(p:NewBlk w w' (.cells rc T fz))(hf:fz.2<=fz.1\/rc.size<=fz.1)(l:cs.length=len*sz)(g:len<=cap)
  (hcap:cap*sz<=rc.size) (hc:eB M cs (rc.toList.take cs.length)):
  ∃M',Inv M' (lC h n i len sz cs).2 w'/\Pres w.heap.size M h w M' (lC h n i len sz cs).2 w'/\VR M' (lC h n i len sz cs).1 (.slice (some ⟨w.heap.size,0,none⟩) len cap):=by
 unfold lC sR oG
 by_cases hw:i=0
 ·simp only [if_pos hw];exact b3L a j p hf l (h0 hw) g hcap hc
 ·simp only [if_neg hw];obtain⟨M',u,h2,z,A⟩:=L2 a j p hf (by rw [l];exact BK (CE _ g) hcap) hc;exact⟨M',u,h2,.hslice _ z (.inr ⟨rfl,rc.size,A,IM⟩) g⟩
theorem Inv.free1{M:Meta}{h:Heap}{w:World}(a:Inv M h w): ∃M',Inv M' (h.push .free) w/\Pres w.heap.size M h w M' (h.push .free) w:=by
 let M':Meta:= {M with nid:=M.nid+1,tip:=fun i=>if i=h.next then 0 else M.tip i }
 have G:Ext M M':=⟨by simp [M'],fun _ _ x=>x,fun _ _ _ x=>x,fun _ _ x=>x,fun i hi=>by
  simp only [M'];rw [if_neg (by have:=a.nid;omega)];exact AJ _,fun i hi _=>rfl⟩
 have p: ∀j,(h.push .free).get j=if j=h.next then .free else h.get j:=fun j=>Heap.get_push h j .free
 have g: ∀{b rc},Blk M w b rc->Blk M' w b rc:=fun l=>⟨l.at_,l.free,l.bsz⟩
 have D: ∀j,Wb M' (h.push .free) j=Wb M h j:=fun j=>by
  by_cases e:j=h.next
  ·subst e;simp [Wb,p,a.fresh h.next (AJ _)]
  ·simp only [Wb,p,if_neg e,M']
 refine⟨M',?_,⟨G,AJ _,rfl,rfl,rfl,fun b Y X=>⟨rfl,?_,fun _=>rfl⟩⟩⟩
 ·exact {
   nid:=by show M.nid+1=_;rw [a.nid,Heap.next_push]
   fresh:=fun id u=>by
    rw [Heap.next_push]at u;rw [p,if_neg IM];exact a.fresh id IM
   freshl:=fun id u=>by
    rw [Heap.next_push]at u;exact a.freshl id IM
   cells:=fun id cs e=>by
    rw [p]at e;split at e
    ·simp at e
    ·obtain⟨b,rc,A,h2,z,T,V⟩:=a.cells id cs e;exact⟨b,rc,A,g h2,z,T.mono G,V⟩
   tips:=fun id k e=>by
    rw [p]at e;split at e
    ·simp at e
    ·rename_i hi;obtain⟨h0,b,e',rc,A,h2,z⟩:=a.tips id k e;exact⟨by simp only [M'];rw [if_neg hi];exact h0,b,e',rc,A,g h2,z⟩
   maps:=fun id O e=>by
    rw [p]at e;split at e
    ·simp at e
    ·obtain⟨b,ents,L,A,h2,z⟩:=a.maps id O e;exact⟨b,ents,L,A,h2,z.1.mono G,z.2⟩
   im:=a.im
   bsz:=a.bsz
   one:=fun id K b e e'=>by
    rw [D]at e e';exact a.one id K b e e'
   resv:=fun id e=>by
    rw [p]at e;split at e
    ·rename_i hi;subst hi;exact⟨a.freshl _ (AJ _),by simp [M']⟩
    ·rename_i hi;simp only [M'];rw [if_neg hi];exact a.resv id e }
 ·rintro⟨id,e⟩;rw [D]at e;exact X ⟨id,e⟩
theorem Inv.reserve{M:Meta}{h:Heap}{w:World}(a:Inv M h w): ∀k,∃M',Inv M' (h.reserve k) w/\Pres w.heap.size M h w M' (h.reserve k) w
 |0=>⟨M,a,Pres.refl _ _ _ _⟩
 |k+1=>by
  obtain⟨u,i,j⟩:=a.reserve k;obtain⟨g,l,p⟩:=i.free1;exact⟨g,l,j.trans p⟩
end Go.Pv
end
end
