import Derived.Test.YtmfnadojephcpaaPvPure
namespace Go.Pv
namespace PT
variable {α : Type}
theorem get_setF (n : Nat) : ∀ (t : PT α) (k j : Nat) (x : Option α), k < n -> (setF n t k x).get j = if j = k then x else t.get j := by
 induction n with
 | zero => intro t k j x h; omega
 | succ n ih =>
   intro t k j x h
   have hl : ∀ j, j % 2 = 1 -> t.get j = t.left.get ((j - 1) / 2) := by
    intro j hj
    cases t with
    | nil => rfl
    | node l v r => simp [get, left, show j ≠ 0 by omega, hj]
   have hr : ∀ j, j ≠ 0 -> j % 2 = 0 -> t.get j = t.right.get ((j - 2) / 2) := by
    intro j h0 hj
    cases t with
    | nil => rfl
    | node l v r => simp [get, right, h0, hj]
   have hv : t.get 0 = t.val := by
    cases t with
    | nil => rfl
    | node l v r => simp [get, val]
   unfold setF
   by_cases hk : k = 0
   ·subst hk
    simp only [if_true, get]
    by_cases hj : j = 0
    ·simp [hj]
    ·by_cases hj2 : j % 2 = 1
     ·simp [hj, hj2, hl j hj2]
     ·simp [hj, hj2, hr j hj (by omega)]
   ·rw [if_neg hk]
    by_cases hk2 : k % 2 = 1
    ·rw [if_pos hk2]
     simp only [get]
     by_cases hj : j = 0
     ·subst hj; simp [hv, show ¬ (0 = k) by omega]
     ·rw [if_neg hj]
      by_cases hj2 : j % 2 = 1
      ·rw [if_pos hj2, ih _ _ _ _ (by omega), hl j hj2]
       by_cases e : j = k
       ·simp [e]
       ·rw [if_neg (by omega), if_neg e]
      ·rw [if_neg hj2, if_neg (by omega), hr j hj (by omega)]
    ·rw [if_neg hk2]
     simp only [get]
     by_cases hj : j = 0
     ·subst hj; simp [hv, show ¬ (0 = k) by omega]
     ·rw [if_neg hj]
      by_cases hj2 : j % 2 = 1
      ·rw [if_pos hj2, if_neg (by omega), hl j hj2]
      ·rw [if_neg hj2, ih _ _ _ _ (by omega), hr j hj (by omega)]
       by_cases e : j = k
       ·simp [e]
       ·rw [if_neg (by omega), if_neg e]
theorem get_set (t : PT α) (k j : Nat) (x : Option α) : (t.set k x).get j = if j = k then x else t.get j := get_setF _ _ _ _ _ (by omega)
theorem get_filt (f : α -> Bool) : ∀ (t : PT α) (j : Nat), (t.filt f).get j = match t.get j with | some x => if f x then some x else none | none => none
 | nil, j => rfl
 | node l v r, j => by
   unfold filt get
   by_cases hj : j = 0
   ·simp only [hj, if_true]; cases v <;> rfl
   ·by_cases hj2 : j % 2 = 1
    ·simp [hj, hj2, get_filt f l]
    ·simp [hj, hj2, get_filt f r]
theorem setF_comm : ∀ (n m : Nat) (t : PT α) (j k : Nat) (x y : Option α), j ≠ k -> setF n (setF m t j x) k y = setF m (setF n t k y) j x
 | 0, m, t, j, k, x, y, _ => by cases m <;> rfl
 | n + 1, 0, t, j, k, x, y, _ => rfl
 | n + 1, m + 1, t, j, k, x, y, hjk => by
   simp only [setF]
   by_cases hj : j = 0
   ·have hk : k ≠ 0 := fun e => hjk (by omega)
    by_cases hk2 : k % 2 = 1 <;> simp [hj, hk, hk2, left, right, val]
   ·by_cases hk : k = 0
    ·by_cases hj2 : j % 2 = 1 <;> simp [hj, hk, hj2, left, right, val]
    ·by_cases hj2 : j % 2 = 1 <;> by_cases hk2 : k % 2 = 1 <;> simp [hj, hk, hj2, hk2, left, right, val]
     ·exact setF_comm n m _ _ _ _ _ (by omega)
     ·exact setF_comm n m _ _ _ _ _ (by omega)
theorem set_comm (t : PT α) {j k : Nat} (x y : Option α) (h : j ≠ k) : (t.set j x).set k y = (t.set k y).set j x := setF_comm _ _ _ _ _ _ _ h
end PT
theorem Heap.set_comm (h : Heap) {j k : Nat} (x y : IObj) (e : j ≠ k) : (h.set j x).set k y = (h.set k y).set j x := by
 simp only [Heap.set, PT.set_comm _ _ _ e]
theorem Heap.get_set (h : Heap) (id j : Nat) (x : IObj) : (h.set id x).get j = if j = id then x else h.get j := by
 simp only [Heap.get, Heap.set, PT.get_set]; split <;> rfl
theorem Heap.get_push (h : Heap) (j : Nat) (x : IObj) : (h.push x).get j = if j = h.next then x else h.get j := by
 simp only [Heap.get, Heap.push, PT.get_set]; split <;> rfl
theorem Heap.next_set (h : Heap) (id : Nat) (x : IObj) : (h.set id x).next = h.next := rfl
theorem Heap.next_push (h : Heap) (x : IObj) : (h.push x).next = h.next + 1 := rfl
structure Blk (M : Meta) (w : World) (b : Nat) (rc : Array Value) : Prop where
 at_ : ∃ el fz, w.heap[b]? = some (.cells rc el fz)
 free : ∀ i, i < rc.size -> w.frozen? ⟨b, i, none⟩ = false
 bsz : M.bsz b = some rc.size
def Brn (ents : Array MapEntry) (clock : Nat) : Prop := clock = ents.size /\ ∀ (j : Nat) (e : MapEntry), ents[j]? = some e -> e.born = j
theorem Brn.nil : Brn #[] 0 := ⟨rfl, fun j e h => by simp at h⟩
theorem Brn.push {ents : Array MapEntry} {clock : Nat} (b : Brn ents clock) (k v : Value) : Brn (ents.push { key := k, val := v, born := clock }) (clock + 1) := by
 obtain ⟨h1, h2⟩ := b
 refine ⟨by simp [h1], fun j e h => ?_⟩
 rw [Array.getElem?_push] at h
 split at h
 ·rename_i hj
  simp only [Option.some.injEq] at h
  rw [<- h, hj]
  exact h1
 ·exact h2 j e h
theorem Brn.modify {ents : Array MapEntry} {clock : Nat} (b : Brn ents clock) (i : Nat) (g : MapEntry -> MapEntry) (hg : ∀ e, (g e).born = e.born) : Brn (ents.modify i g) clock := by
 obtain ⟨h1, h2⟩ := b
 refine ⟨by simp [h1], fun j e h => ?_⟩
 rw [Array.getElem?_modify] at h
 split at h
 ·obtain ⟨x, q1, q2⟩ := Option.map_eq_some_iff.1 h
  rw [<- q2, hg]
  exact h2 j x q1
 ·exact h2 j e h
def MRs (M : Meta) (es : List (IV × IV)) (ents : List MapEntry) : Prop := VRs M (es.map (·.1)) (ents.map (·.key)) /\ VRs M (es.map (·.2)) (ents.map (·.val))
def Wb (M : Meta) (h : Heap) (id : Nat) : Option Nat :=
 match h.get id with
 | .cells _ => M.loc id
 | .map _ => M.loc id
 | .tip _ => some (M.cur id).1
 | .dead => none
 | .free => none
def Wr (M : Meta) (h : Heap) (b : Nat) : Prop := ∃ id, Wb M h id = some b
structure Inv (M : Meta) (h : Heap) (w : World) : Prop where
 nid : M.nid = h.next
 fresh : ∀ id, h.next <= id -> h.get id = .dead
 freshl : ∀ id, h.next <= id -> M.loc id = none
 cells : ∀ id cs, h.get id = .cells cs -> ∃ b rc, M.loc id = some b /\ Blk M w b rc /\ cs.length <= rc.size /\ CRs M cs (rc.toList.take cs.length) /\ ∀ o, M.im b o = none
 tips : ∀ id n, h.get id = .tip n -> M.tip id = n /\ ∃ b e rc, M.cur id = (b, e) /\ Blk M w b rc /\ e <= rc.size /\ ∀ o, e <= o -> M.im b o = none
 maps : ∀ id es, h.get id = .map es -> ∃ b ents clock, M.loc id = some b /\ w.heap[b]? = some (.map ents clock) /\ MRs M es ents.toList /\ Brn ents clock
 im : ∀ b o v, M.im b o = some v -> w.cell? ⟨b, o, none⟩ = some v
 bsz : ∀ b n, M.bsz b = some n -> b < w.heap.size
 one : ∀ id id' b, Wb M h id = some b -> Wb M h id' = some b -> id = id'
 resv : ∀ id, h.get id = .free -> M.loc id = none /\ M.tip id = 0
structure Pres (B : Nat) (M : Meta) (h : Heap) (w : World) (M' : Meta) (h' : Heap) (w' : World) : Prop where
 ext : Ext M M'
 size : w.heap.size <= w'.heap.size
 os : w'.os = w.os
 tape : w'.tape = w.tape
 output : w'.output = w.output
 keep : ∀ b, b < B -> ¬ Wr M h b -> w'.heap[b]? = w.heap[b]? /\ ¬ Wr M' h' b /\ ∀ o, M'.im b o = M.im b o
theorem Pres.refl (B : Nat) (M : Meta) (h : Heap) (w : World) : Pres B M h w M h w := ⟨Ext.refl M, Nat.le_refl _, rfl, rfl, rfl, fun _ _ hn => ⟨rfl, hn, fun _ => rfl⟩⟩
theorem Pres.trans {B : Nat} {M1 M2 M3 : Meta} {h1 h2 h3 : Heap} {w1 w2 w3 : World} (a : Pres B M1 h1 w1 M2 h2 w2) (b : Pres B M2 h2 w2 M3 h3 w3) : Pres B M1 h1 w1 M3 h3 w3 where
 ext := a.ext.trans b.ext
 size := Nat.le_trans a.size b.size
 os := b.os.trans a.os
 tape := b.tape.trans a.tape
 output := b.output.trans a.output
 keep := fun k hk hn => by
  obtain ⟨p1, p2, p3⟩ := a.keep k hk hn
  obtain ⟨q1, q2, q3⟩ := b.keep k hk p2
  exact ⟨q1.trans p1, q2, fun o => (q3 o).trans (p3 o)⟩
theorem Pres.mono {B B' : Nat} {M M' : Meta} {h h' : Heap} {w w' : World} (a : Pres B M h w M' h' w') (hB : B' <= B) : Pres B' M h w M' h' w' :=
 { a with keep := fun k hk hn => a.keep k (Nat.lt_of_lt_of_le hk hB) hn }
theorem Pres.drew {B : Nat} {M M' : Meta} {h h' : Heap} {w w' : World} (a : Pres B M h w M' h' w') : Pres B M h w M' h' w'.drew :=
 { a with }
theorem Inv.drew {M : Meta} {h : Heap} {w : World} (a : Inv M h w) : Inv M h w.drew where
 nid := a.nid
 fresh := a.fresh
 freshl := a.freshl
 cells := fun id cs e => by
  obtain ⟨b, rc, h1, h2, h3⟩ := a.cells id cs e
  exact ⟨b, rc, h1, ⟨h2.at_, h2.free, h2.bsz⟩, h3⟩
 tips := fun id n e => by
  obtain ⟨h0, b, e', rc, h1, h2, h3⟩ := a.tips id n e
  exact ⟨h0, b, e', rc, h1, ⟨h2.at_, h2.free, h2.bsz⟩, h3⟩
 maps := a.maps
 im := a.im
 bsz := a.bsz
 one := a.one
 resv := a.resv
theorem MRs.mono {M M' : Meta} (hE : Ext M M') {es : List (IV × IV)} {ents : List MapEntry} (h : MRs M es ents) : MRs M' es ents := ⟨h.1.mono hE, h.2.mono hE⟩
theorem frozen_of_block {w w' : World} {b b' i : Nat} (h : w'.heap[b']? = w.heap[b]?) : w'.frozen? ⟨b', i, none⟩ = w.frozen? ⟨b, i, none⟩ := by
 simp only [World.frozen?, h]
theorem cell_of_block {w w' : World} {b i : Nat} (h : w'.heap[b]? = w.heap[b]?) : w'.cell? ⟨b, i, none⟩ = w.cell? ⟨b, i, none⟩ := by
 simp only [World.cell?, h]
theorem lt_of_some {w : World} {b : Nat} {o : Obj} (h : w.heap[b]? = some o) : b < w.heap.size := by
 obtain ⟨hb, _⟩ := Array.getElem?_eq_some_iff.1 h
 exact hb
theorem Blk.lt {M : Meta} {w : World} {b : Nat} {rc : Array Value} (h : Blk M w b rc) : b < w.heap.size := by
 obtain ⟨el, fz, h⟩ := h.at_
 exact lt_of_some h
theorem Blk.keep {M M' : Meta} {w w' : World} {b : Nat} {rc : Array Value} (h : Blk M w b rc) (hb : w'.heap[b]? = w.heap[b]?) (hs : M'.bsz b = M.bsz b) : Blk M' w' b rc := by
 obtain ⟨el, fz, h1⟩ := h.at_
 exact ⟨⟨el, fz, hb.trans h1⟩, fun i hi => (frozen_of_block hb).trans (h.free i hi), hs.trans h.bsz⟩
theorem Inv.wb_lt {M : Meta} {h : Heap} {w : World} (a : Inv M h w) {id b : Nat} (e : Wb M h id = some b) : b < w.heap.size := by
 unfold Wb at e
 cases hg : h.get id with
 | cells cs =>
   obtain ⟨b', rc, h1, h2, _⟩ := a.cells id cs hg
   simp [hg] at e
   rw [h1] at e; simp at e; subst e
   exact h2.lt
 | free => simp [hg] at e
 | map es =>
   obtain ⟨b', ents, c, h1, h2, _⟩ := a.maps id es hg
   simp [hg] at e
   rw [h1] at e; simp at e; subst e
   exact lt_of_some h2
 | tip n =>
   obtain ⟨_, b', e', rc, h1, h2, _⟩ := a.tips id n hg
   simp [hg] at e
   rw [h1] at e; simp at e; subst e
   exact h2.lt
 | dead => simp [hg] at e
structure NewBlk (w w' : World) (o : Obj) : Prop where
 new : w'.heap[w.heap.size]? = some o
 old : ∀ b, b < w.heap.size -> w'.heap[b]? = w.heap[b]?
 size : w'.heap.size = w.heap.size + 1
 os : w'.os = w.os
 tape : w'.tape = w.tape
 output : w'.output = w.output
theorem NewBlk.alloc (w : World) (o : Obj) : NewBlk w (w.alloc o) o where
 new := by show (w.heap.push o)[w.heap.size]? = _; simp
 old := fun b hb => by show (w.heap.push o)[b]? = _; rw [Array.getElem?_push, if_neg (by omega)]
 size := by simp
 os := rfl
 tape := rfl
 output := rfl
structure Fresh1 (M M' : Meta) (h : Heap) (w : World) : Prop where
 loc : ∀ i, i ≠ h.next -> M'.loc i = M.loc i
 tip : ∀ i, i ≠ h.next -> M'.tip i = M.tip i
 cur : ∀ i, i ≠ h.next -> M'.cur i = M.cur i
 im : ∀ b o, b ≠ w.heap.size -> M'.im b o = M.im b o
 bsz : ∀ b, b ≠ w.heap.size -> M'.bsz b = M.bsz b
 nid : M'.nid = M.nid + 1
theorem Fresh1.wb {M M' : Meta} {h : Heap} {w : World} {x : IObj} (f : Fresh1 M M' h w) {id : Nat} (hi : id ≠ h.next) : Wb M' (h.push x) id = Wb M h id := by
 have hg : (h.push x).get id = h.get id := by rw [Heap.get_push, if_neg hi]
 simp only [Wb, hg, f.loc id hi, f.cur id hi]
section
variable {M : Meta} {h : Heap} {w w' : World} (a : Inv M h w)
include a
theorem Inv.im_lt {b o : Nat} {v : Value} (e : M.im b o = some v) : b < w.heap.size := by
 have := a.im b o v e
 unfold World.cell? at this
 split at this
 ·rename_i c _ _ hb; exact lt_of_some hb
 ·simp at this
theorem Fresh1.ext {M' : Meta} (f : Fresh1 M M' h w) : Ext M M' where
 nid := by have := f.nid; omega
 loc := fun id b e => by
  by_cases hi : id = h.next
  ·have := a.freshl id (by omega); rw [this] at e; simp at e
  ·rw [f.loc id hi]; exact e
 im := fun b o v e => by rw [f.im b o (by have := a.im_lt e; omega)]; exact e
 bsz := fun b n e => by rw [f.bsz b (by have := a.bsz b n e; omega)]; exact e
 tip := fun i hi => by rw [f.tip i (by have := a.nid; omega)]; exact Nat.le_refl _
 cur := fun i hi _ => by rw [f.cur i (by have := a.nid; omega)]
theorem Fresh1.inv {M' : Meta} {x : IObj} {o : Obj} (f : Fresh1 M M' h w) (nb : NewBlk w w' o)
  (hlt : ∀ i, h.next < i -> M'.loc i = none) (hwb : Wb M' (h.push x) h.next = some w.heap.size)
  (him : ∀ off v, M'.im w.heap.size off = some v -> w'.cell? ⟨w.heap.size, off, none⟩ = some v)
  (hc : ∀ cs, x = .cells cs -> ∃ rc, M'.loc h.next = some w.heap.size /\ Blk M' w' w.heap.size rc /\ cs.length <= rc.size /\ CRs M' cs (rc.toList.take cs.length) /\ ∀ off, M'.im w.heap.size off = none)
  (ht : ∀ n, x = .tip n -> M'.tip h.next = n /\ ∃ e rc, M'.cur h.next = (w.heap.size, e) /\ Blk M' w' w.heap.size rc /\ e <= rc.size /\ ∀ off, e <= off -> M'.im w.heap.size off = none)
  (hm : ∀ es, x = .map es -> ∃ ents clock, M'.loc h.next = some w.heap.size /\ w'.heap[w.heap.size]? = some (.map ents clock) /\ MRs M' es ents.toList /\ Brn ents clock) (hx : x ≠ .free := by simp) :
  Inv M' (h.push x) w' /\ Pres w.heap.size M h w M' (h.push x) w' := by
 have hE := f.ext a
 refine ⟨?_, ?_⟩
 ·refine ⟨?_, ?_, ?_, ?_, ?_, ?_, ?_, ?_, ?_, ?_⟩
  ·rw [f.nid, a.nid, Heap.next_push]
  ·intro id hid
   rw [Heap.next_push] at hid
   rw [Heap.get_push, if_neg (by omega)]
   exact a.fresh id (by omega)
  ·intro id hid
   rw [Heap.next_push] at hid
   exact hlt id (by omega)
  ·intro id cs e
   by_cases hi : id = h.next
   ·subst hi
    rw [Heap.get_push, if_pos rfl] at e
    obtain ⟨rc, h1, h2⟩ := hc cs e
    exact ⟨_, rc, h1, h2⟩
   ·rw [Heap.get_push, if_neg hi] at e
    obtain ⟨b, rc, h1, h2, h3, h4, h5⟩ := a.cells id cs e
    have hb := h2.lt
    exact ⟨b, rc, (f.loc id hi).trans h1, h2.keep (nb.old b hb) (f.bsz b (by omega)), h3, h4.mono hE, fun off => (f.im b off (by omega)).trans (h5 off)⟩
  ·intro id n e
   by_cases hi : id = h.next
   ·subst hi
    rw [Heap.get_push, if_pos rfl] at e
    obtain ⟨h0, e', rc, h1, h2⟩ := ht n e
    exact ⟨h0, _, e', rc, h1, h2⟩
   ·rw [Heap.get_push, if_neg hi] at e
    obtain ⟨h0, b, e', rc, h1, h2, h3, h4⟩ := a.tips id n e
    have hb := h2.lt
    exact ⟨(f.tip id hi).trans h0, b, e', rc, (f.cur id hi).trans h1, h2.keep (nb.old b hb) (f.bsz b (by omega)), h3, fun off ho => (f.im b off (by omega)).trans (h4 off ho)⟩
  ·intro id es e
   by_cases hi : id = h.next
   ·subst hi
    rw [Heap.get_push, if_pos rfl] at e
    obtain ⟨ents, c, h1, h2⟩ := hm es e
    exact ⟨_, ents, c, h1, h2⟩
   ·rw [Heap.get_push, if_neg hi] at e
    obtain ⟨b, ents, c, h1, h2, h3⟩ := a.maps id es e
    exact ⟨b, ents, c, (f.loc id hi).trans h1, (nb.old b (lt_of_some h2)).trans h2, h3.1.mono hE, h3.2⟩
  ·intro b off v e
   by_cases hb : b = w.heap.size
   ·subst hb; exact him off v e
   ·rw [f.im b off hb] at e
    rw [cell_of_block (nb.old b (a.im_lt e))]
    exact a.im b off v e
  ·intro b n e
   rw [nb.size]
   by_cases hb : b = w.heap.size
   ·omega
   ·rw [f.bsz b hb] at e
    have := a.bsz b n e
    omega
  ·intro id id' b e e'
   by_cases hi : id = h.next
   ·by_cases hi' : id' = h.next
    ·omega
    ·rw [f.wb hi'] at e'
     subst hi
     rw [hwb] at e; simp at e
     have := a.wb_lt e'
     omega
   ·rw [f.wb hi] at e
    by_cases hi' : id' = h.next
    ·subst hi'
     rw [hwb] at e'; simp at e'
     have := a.wb_lt e
     omega
    ·rw [f.wb hi'] at e'
     exact a.one id id' b e e'
  ·intro id e
   by_cases hi : id = h.next
   ·subst hi
    rw [Heap.get_push, if_pos rfl] at e
    exact absurd e hx
   ·rw [Heap.get_push, if_neg hi] at e
    rw [f.loc id hi, f.tip id hi]
    exact a.resv id e
 ·refine ⟨hE, by rw [nb.size]; omega, nb.os, nb.tape, nb.output, ?_⟩
  intro b hb hn
  refine ⟨nb.old b hb, ?_, fun off => f.im b off (by omega)⟩
  rintro ⟨id, e⟩
  by_cases hi : id = h.next
  ·subst hi; rw [hwb] at e; simp at e; omega
  ·rw [f.wb hi] at e; exact hn ⟨id, e⟩
end
end Go.Pv
