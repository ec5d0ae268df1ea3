import Derived.Test.YtmfnadojephcpaaPvInv
namespace Go.Pv
structure UpdS (S : Nat -> Prop) (tb : Nat) (M : Meta) (h : Heap) (w : World) (M' : Meta) (h' : Heap) (w' : World) : Prop where
 get : ∀ j, ¬ S j -> h'.get j = h.get j
 loc : ∀ j, ¬ S j -> M'.loc j = M.loc j
 tip : ∀ j, ¬ S j -> M'.tip j = M.tip j
 cur : ∀ j, ¬ S j -> M'.cur j = M.cur j
 heap : ∀ b, b < w.heap.size -> b ≠ tb -> w'.heap[b]? = w.heap[b]?
 im : ∀ b o, b ≠ tb -> M'.im b o = M.im b o
 bsz : ∀ b, b ≠ tb -> M'.bsz b = M.bsz b
 size : w.heap.size <= w'.heap.size
 os : w'.os = w.os
 tape : w'.tape = w.tape
 output : w'.output = w.output
 own : (∃ i, S i /\ Wb M h i = some tb) \/ tb = w.heap.size
 wb : ∀ i b, S i -> Wb M' h' i = some b -> b = tb
 one : ∀ i i', S i -> S i' -> Wb M' h' i = some tb -> Wb M' h' i' = some tb -> i = i'
 ext : Ext M M'
 nid : M'.nid = h'.next
 fresh : ∀ id, h'.next <= id -> h'.get id = .dead
 freshl : ∀ id, h'.next <= id -> M'.loc id = none
 imtb : ∀ off v, M'.im tb off = some v -> w'.cell? ⟨tb, off, none⟩ = some v
 bsztb : ∀ n, M'.bsz tb = some n -> tb < w'.heap.size
 cells : ∀ i cs, S i -> h'.get i = .cells cs -> ∃ rc, M'.loc i = some tb /\ Blk M' w' tb rc /\ cs.length <= rc.size /\ CRs M' cs (rc.toList.take cs.length) /\ ∀ off, M'.im tb off = none
 tips : ∀ i n, S i -> h'.get i = .tip n -> M'.tip i = n /\ ∃ e rc, M'.cur i = (tb, e) /\ Blk M' w' tb rc /\ e <= rc.size /\ ∀ off, e <= off -> M'.im tb off = none
 maps : ∀ i es, S i -> h'.get i = .map es -> ∃ ents clock, M'.loc i = some tb /\ w'.heap[tb]? = some (.map ents clock) /\ MRs M' es ents.toList /\ Brn ents clock
 resv : ∀ i, S i -> h'.get i ≠ .free
theorem UpdS.done {S : Nat -> Prop} {tb : Nat} {M : Meta} {h : Heap} {w : World} {M' : Meta} {h' : Heap} {w' : World} (u : UpdS S tb M h w M' h' w') (a : Inv M h w) :
  Inv M' h' w' /\ Pres w.heap.size M h w M' h' w' := by
 have hE := u.ext
 have ne : ∀ j b, ¬ S j -> Wb M h j = some b -> b ≠ tb := by
  intro j b hj e hb
  subst hb
  rcases u.own with ⟨i, hi, e'⟩ | e'
  ·exact hj (a.one j i b e e' ▸ hi)
  ·have := a.wb_lt e; omega
 have same : ∀ j, ¬ S j -> Wb M' h' j = Wb M h j := by
  intro j hj
  simp only [Wb, u.get j hj, u.loc j hj, u.cur j hj]
 refine ⟨⟨u.nid, u.fresh, u.freshl, ?_, ?_, ?_, ?_, ?_, ?_, fun id e => ?_⟩, ⟨hE, u.size, u.os, u.tape, u.output, ?_⟩⟩
 ·intro id cs e
  by_cases hi : S id
  ·obtain ⟨rc, h1, h2⟩ := u.cells id cs hi e
   exact ⟨tb, rc, h1, h2⟩
  ·rw [u.get id hi] at e
   obtain ⟨b, rc, h1, h2, h3, h4, h5⟩ := a.cells id cs e
   have hb : b ≠ tb := ne id b hi (by simp [Wb, e, h1])
   exact ⟨b, rc, (u.loc id hi).trans h1, h2.keep (u.heap b h2.lt hb) (u.bsz b hb), h3, h4.mono hE, fun off => (u.im b off hb).trans (h5 off)⟩
 ·intro id n e
  by_cases hi : S id
  ·obtain ⟨h0, e', rc, h1, h2⟩ := u.tips id n hi e
   exact ⟨h0, tb, e', rc, h1, h2⟩
  ·rw [u.get id hi] at e
   obtain ⟨h0, b, e', rc, h1, h2, h3, h4⟩ := a.tips id n e
   have hb : b ≠ tb := ne id b hi (by simp [Wb, e, h1])
   exact ⟨(u.tip id hi).trans h0, b, e', rc, (u.cur id hi).trans h1, h2.keep (u.heap b h2.lt hb) (u.bsz b hb), h3, fun off ho => (u.im b off hb).trans (h4 off ho)⟩
 ·intro id es e
  by_cases hi : S id
  ·obtain ⟨ents, c, h1, h2⟩ := u.maps id es hi e
   exact ⟨tb, ents, c, h1, h2⟩
  ·rw [u.get id hi] at e
   obtain ⟨b, ents, c, h1, h2, h3⟩ := a.maps id es e
   have hb : b ≠ tb := ne id b hi (by simp [Wb, e, h1])
   exact ⟨b, ents, c, (u.loc id hi).trans h1, (u.heap b (lt_of_some h2) hb).trans h2, h3.1.mono hE, h3.2⟩
 ·intro b off v e
  by_cases hb : b = tb
  ·subst hb; exact u.imtb off v e
  ·rw [u.im b off hb] at e
   rw [cell_of_block (u.heap b (a.im_lt e) hb)]
   exact a.im b off v e
 ·intro b n e
  by_cases hb : b = tb
  ·subst hb; exact u.bsztb n e
  ·rw [u.bsz b hb] at e
   have := a.bsz b n e
   have := u.size
   omega
 ·intro id id' b e e'
  by_cases hi : S id
  ·have hb := u.wb id b hi e
   subst hb
   by_cases hi' : S id'
   ·exact u.one id id' hi hi' e e'
   ·rw [same id' hi'] at e'
    exact absurd rfl (ne id' b hi' e')
  ·rw [same id hi] at e
   by_cases hi' : S id'
   ·have hb := u.wb id' b hi' e'
    exact absurd hb (ne id b hi e)
   ·rw [same id' hi'] at e'
    exact a.one id id' b e e'
 ·by_cases hi : S id
  ·exact absurd e (u.resv id hi)
  ·rw [u.get id hi] at e
   rw [u.loc id hi, u.tip id hi]
   exact a.resv id e
 ·intro b hb hn
  have hbt : b ≠ tb := by
   intro e
   subst e
   rcases u.own with ⟨i, hi, e'⟩ | e'
   ·exact hn ⟨i, e'⟩
   ·omega
  refine ⟨u.heap b hb hbt, ?_, fun off => u.im b off hbt⟩
  rintro ⟨id, e⟩
  by_cases hi : S id
  ·exact hbt (u.wb id b hi e)
  ·rw [same id hi] at e; exact hn ⟨id, e⟩
section
variable {M : Meta} {h : Heap} {w w' : World} (a : Inv M h w)
theorem frozen_new {rc : Array Value} {el : TypeId} {fz : Nat × Nat} {b : Nat} (hb : w'.heap[b]? = some (.cells rc el fz)) (hf : fz.2 <= fz.1 \/ rc.size <= fz.1) (i : Nat) (hi : i < rc.size) : w'.frozen? ⟨b, i, none⟩ = false := by
 obtain ⟨lo, hi'⟩ := fz
 simp only [World.frozen?, hb]
 simp only at hf
 simp
 omega
include a
theorem new_cells {rc : Array Value} {el : TypeId} {fz : Nat × Nat} (nb : NewBlk w w' (.cells rc el fz)) (hf : fz.2 <= fz.1 \/ rc.size <= fz.1) {cs : List IV} (hle : cs.length <= rc.size) (hc : CRs M cs (rc.toList.take cs.length)) :
  ∃ M', Inv M' (h.push (.cells cs)) w' /\ Pres w.heap.size M h w M' (h.push (.cells cs)) w' /\ M'.loc h.next = some w.heap.size /\ M'.bsz w.heap.size = some rc.size := by
 let M' : Meta := { M with nid := M.nid + 1, loc := fun i => if i = h.next then some w.heap.size else M.loc i, bsz := fun b => if b = w.heap.size then some rc.size else M.bsz b }
 have hf1 : Fresh1 M M' h w := ⟨fun i hi => by simp [M', hi], fun _ _ => rfl, fun _ _ => rfl, fun _ _ _ => rfl, fun b hb => by simp [M', hb], rfl⟩
 have himn : ∀ off, M.im w.heap.size off = none := by
  intro off
  cases e : M.im w.heap.size off with
  | none => rfl
  | some v => have := a.im_lt e; omega
 have hE := hf1.ext a
 have := hf1.inv a (x := .cells cs) nb (fun i hi => by simp [M', show i ≠ h.next by omega, a.freshl i (by omega)])
  (by simp [Wb, Heap.get_push, M']) (fun off v e => by simp [M', himn] at e)
  (fun cs' e => by
   simp at e; subst e
   exact ⟨rc, by simp [M'], ⟨⟨el, fz, nb.new⟩, fun i hi => frozen_new nb.new hf i hi, by simp [M']⟩, hle, hc.mono hE, himn⟩)
  (fun n e => by simp at e) (fun es e => by simp at e)
 exact ⟨M', this.1, this.2, by simp [M'], by simp [M']⟩
theorem new_tip {rc : Array Value} {el : TypeId} {fz : Nat × Nat} (nb : NewBlk w w' (.cells rc el fz)) (hf : fz.2 <= fz.1 \/ rc.size <= fz.1) {cs : List IV} {len sz cap : Nat} (hn : cs.length = len * sz) (hlen : len <= cap) (hcap : cap * sz <= rc.size)
  (hc : CRs M cs (rc.toList.take cs.length)) :
  ∃ M', Inv M' (h.push (.tip (len * sz))) w' /\ Pres w.heap.size M h w M' (h.push (.tip (len * sz))) w' /\ VR M' (.vslice (some h.next) (len * sz) len sz cs) (.slice (some ⟨w.heap.size, 0, none⟩) len cap) := by
 have hle : cs.length <= rc.size := by
  have : len * sz <= cap * sz := Nat.mul_le_mul_right _ hlen
  omega
 let M' : Meta := { M with nid := M.nid + 1, tip := fun i => if i = h.next then cs.length else M.tip i, cur := fun i => if i = h.next then (w.heap.size, cs.length) else M.cur i, im := fun b o => if b = w.heap.size then (if o < cs.length then rc[o]? else none) else M.im b o, bsz := fun b => if b = w.heap.size then some rc.size else M.bsz b }
 have hf1 : Fresh1 M M' h w := ⟨fun _ _ => rfl, fun i hi => by simp [M', hi], fun i hi => by simp [M', hi], fun b o hb => by simp [M', hb], fun b hb => by simp [M', hb], rfl⟩
 have hE := hf1.ext a
 rw [<- hn]
 have := hf1.inv a (x := .tip cs.length) nb (fun i hi => a.freshl i (by omega))
  (by simp [Wb, Heap.get_push, M']) (fun off v e => by
   simp only [M', if_true] at e
   split at e
   ·simp only [World.cell?, nb.new, Option.isSome_none, Bool.false_eq_true, if_false]; exact e
   ·simp at e)
  (fun cs' e => by simp at e)
  (fun n e => by
   simp at e; subst e
   exact ⟨by simp [M'], cs.length, rc, by simp [M'], ⟨⟨el, fz, nb.new⟩, fun i hi => frozen_new nb.new hf i hi, by simp [M']⟩, hle, fun off ho => by simp [M']; omega⟩)
  (fun es e => by simp at e)
 refine ⟨M', this.1, this.2, ?_⟩
 have hc' := hc.mono hE
 refine .vslice ⟨w.heap.size, 0, none⟩ (fun i => rc.getD i undef) hn hlen (.inr ⟨rfl, rc.size, by simp [M'], by simpa using hcap⟩) ?_ ?_ hc'.2 ?_ (by simp)
 ·intro i hi
  simp [M', hi, show i < rc.size by omega]
 ·intro i hi
  have := hc'.1.2 i hi (by simp; omega)
  simpa [show i < rc.size by omega] using this
 ·intro i e
  simp at e; subst e
  exact ⟨by show h.next < M.nid + 1; rw [a.nid]; omega, Nat.le_refl _, by simp [M'], fun _ => .inr (by simp [M'])⟩
theorem new_lit {rc : Array Value} {el : TypeId} {fz : Nat × Nat} (nb : NewBlk w w' (.cells rc el fz)) {cs : List IV} {len sz : Nat} (hn : cs.length = len * sz) (h0 : 0 < sz) (hc : CRs M cs rc.toList) :
  ∃ M', Inv M' h w' /\ Pres w.heap.size M h w M' h w' /\ VR M' (.vslice none 1 len sz cs) (.slice (some ⟨w.heap.size, 0, none⟩) len len) := by
 have hsz : rc.size = cs.length := by have := hc.len; simpa using this.symm
 let M' : Meta := { M with im := fun b o => if b = w.heap.size then rc[o]? else M.im b o, bsz := fun b => if b = w.heap.size then some rc.size else M.bsz b }
 have hE : Ext M M' := ⟨Nat.le_refl _, fun _ _ x => x, fun c o v x => by
   simp only [M']
   rw [if_neg (by have := a.im_lt x; omega)]
   exact x, fun c n' x => by
   simp only [M']
   rw [if_neg (by have := a.bsz c n' x; omega)]
   exact x, fun _ _ => Nat.le_refl _, fun _ _ _ => rfl⟩
 have hmain : Inv M' h w' /\ Pres w.heap.size M h w M' h w' := by
  refine UpdS.done (S := fun _ => False) (tb := w.heap.size) ?_ a
  refine {
   get := fun _ _ => rfl, loc := fun _ _ => rfl, tip := fun _ _ => rfl, cur := fun _ _ => rfl, heap := fun j hj _ => nb.old j hj, im := fun c o hc => by simp [M', hc], bsz := fun c hc => by simp [M', hc], size := (by rw [nb.size]; omega),
   os := nb.os, tape := nb.tape, output := nb.output, own := .inr rfl, wb := fun _ _ hf => hf.elim, one := fun _ _ hf => hf.elim, ext := hE, nid := a.nid, fresh := a.fresh, freshl := a.freshl, imtb := ?_, bsztb := ?_, cells := fun _ _ hf => hf.elim, tips := fun _ _ hf => hf.elim, maps := fun _ _ hf => hf.elim, resv := fun _ hf => hf.elim }
  ·intro off v x
   simp only [M', if_true] at x
   simp only [World.cell?, nb.new, Option.isSome_none, Bool.false_eq_true, if_false]
   exact x
  ·intro n' x; rw [nb.size]; omega
 refine ⟨M', hmain.1, hmain.2, ?_⟩
 have hc' := hc.mono hE
 refine .vslice ⟨w.heap.size, 0, none⟩ (fun i => rc.getD i undef) hn (Nat.le_refl _) (.inr ⟨rfl, rc.size, by simp [M'], by simp; omega⟩) ?_ ?_ hc'.2 (by simp) (fun _ => .inr ⟨rfl, rfl, h0⟩)
 ·intro i hi
  simp [M', show i < rc.size by omega]
 ·intro i hi
  have := hc'.1.2 i hi (by simp; omega)
  simpa [show i < rc.size by omega] using this
theorem new_map (nb : NewBlk w w' (.map #[] 0)) : ∃ M', Inv M' (h.push (.map [])) w' /\ Pres w.heap.size M h w M' (h.push (.map [])) w' /\ M'.loc h.next = some w.heap.size := by
 let M' : Meta := { M with nid := M.nid + 1, loc := fun i => if i = h.next then some w.heap.size else M.loc i }
 have hf1 : Fresh1 M M' h w := ⟨fun i hi => by simp [M', hi], fun _ _ => rfl, fun _ _ => rfl, fun _ _ _ => rfl, fun _ _ => rfl, rfl⟩
 have himn : ∀ off, M.im w.heap.size off = none := by
  intro off
  cases e : M.im w.heap.size off with
  | none => rfl
  | some v => have := a.im_lt e; omega
 have := hf1.inv a (x := .map []) nb (fun i hi => by simp [M', show i ≠ h.next by omega, a.freshl i (by omega)])
  (by simp [Wb, Heap.get_push, M']) (fun off v e => by simp [M', himn] at e)
  (fun cs' e => by simp at e) (fun n e => by simp at e)
  (fun es e => by simp at e; subst e; exact ⟨#[], 0, by simp [M'], nb.new, ⟨VRs.nil _, VRs.nil _⟩, Brn.nil⟩)
 exact ⟨M', this.1, this.2, by simp [M']⟩
theorem set_cells {id b : Nat} {cs cs' : List IV} {rc' : Array Value} (hg : h.get id = .cells cs) (hb : M.loc id = some b) (hk : ∀ k, k ≠ b -> w'.heap[k]? = w.heap[k]?) (hs : w'.heap.size = w.heap.size)
  (hr : w'.os = w.os /\ w'.tape = w.tape /\ w'.output = w.output) (hB : Blk M w' b rc') (hle : cs'.length <= rc'.size) (hc : CRs M cs' (rc'.toList.take cs'.length)) :
  Inv M (h.set id (.cells cs')) w' /\ Pres w.heap.size M h w M (h.set id (.cells cs')) w' := by
 obtain ⟨b', rc, h1, h2, h3, h4, h5⟩ := a.cells id cs hg
 rw [hb] at h1; simp at h1; subst h1
 refine UpdS.done (S := fun j => j = id) (tb := b) ?_ a
 refine {
   get := fun j hj => by rw [Heap.get_set, if_neg hj], loc := fun _ _ => rfl, tip := fun _ _ => rfl, cur := fun _ _ => rfl, heap := fun k _ hk' => hk k hk', im := fun _ _ _ => rfl, bsz := fun _ _ => rfl, size := (by omega),
   os := hr.1, tape := hr.2.1, output := hr.2.2, own := .inl ⟨id, rfl, by simp [Wb, hg, hb]⟩, wb := ?_, one := fun i i' e e' _ _ => e.trans e'.symm, ext := Ext.refl M, nid := a.nid, fresh := ?_, freshl := a.freshl, imtb := ?_, bsztb := ?_, cells := ?_, tips := ?_, maps := ?_, resv := fun i hi e => by subst hi; simp [Heap.get_set] at e }
 ·intro i k e ew
  subst e
  simp [Wb, Heap.get_set, hb] at ew
  exact ew.symm
 ·intro j hj
  rw [Heap.next_set] at hj
  rw [Heap.get_set, if_neg]
  ·exact a.fresh j hj
  ·intro e; subst e; rw [a.fresh j hj] at hg; simp at hg
 ·intro off v e; rw [h5] at e; simp at e
 ·intro n e; exact hs ▸ a.bsz b n e
 ·intro i cs'' e eg
  subst e
  simp [Heap.get_set] at eg; subst eg
  exact ⟨rc', hb, hB, hle, hc, h5⟩
 ·intro i n e eg; subst e; simp [Heap.get_set] at eg
 ·intro i n e eg; subst e; simp [Heap.get_set] at eg
theorem set_map {id b : Nat} {es es' : List (IV × IV)} {ents : Array MapEntry} {clock : Nat} (hg : h.get id = .map es) (hb : M.loc id = some b) (hk : ∀ k, k ≠ b -> w'.heap[k]? = w.heap[k]?) (hs : w'.heap.size = w.heap.size)
  (hr : w'.os = w.os /\ w'.tape = w.tape /\ w'.output = w.output) (hB : w'.heap[b]? = some (.map ents clock)) (hc : MRs M es' ents.toList /\ Brn ents clock) :
  Inv M (h.set id (.map es')) w' /\ Pres w.heap.size M h w M (h.set id (.map es')) w' := by
 obtain ⟨b', ents0, c0, h1, h2, h3⟩ := a.maps id es hg
 rw [hb] at h1; simp at h1; subst h1
 refine UpdS.done (S := fun j => j = id) (tb := b) ?_ a
 refine {
   get := fun j hj => by rw [Heap.get_set, if_neg hj], loc := fun _ _ => rfl, tip := fun _ _ => rfl, cur := fun _ _ => rfl, heap := fun k _ hk' => hk k hk', im := fun _ _ _ => rfl, bsz := fun _ _ => rfl, size := (by omega),
   os := hr.1, tape := hr.2.1, output := hr.2.2, own := .inl ⟨id, rfl, by simp [Wb, hg, hb]⟩, wb := ?_, one := fun i i' e e' _ _ => e.trans e'.symm, ext := Ext.refl M, nid := a.nid, fresh := ?_, freshl := a.freshl, imtb := ?_, bsztb := ?_, cells := ?_, tips := ?_, maps := ?_, resv := fun i hi e => by subst hi; simp [Heap.get_set] at e }
 ·intro i k e ew
  subst e
  simp [Wb, Heap.get_set, hb] at ew
  exact ew.symm
 ·intro j hj
  rw [Heap.next_set] at hj
  rw [Heap.get_set, if_neg]
  ·exact a.fresh j hj
  ·intro e; subst e; rw [a.fresh j hj] at hg; simp at hg
 ·intro off v e
  have := a.im b off v e
  simp [World.cell?, h2] at this
 ·intro n e; exact hs ▸ a.bsz b n e
 ·intro i n e eg; subst e; simp [Heap.get_set] at eg
 ·intro i n e eg; subst e; simp [Heap.get_set] at eg
 ·intro i es'' e eg
  subst e
  simp [Heap.get_set] at eg; subst eg
  exact ⟨ents, clock, hb, hB, hc⟩
theorem tip_here {id e k b pos : Nat} {rc rc' : Array Value} (hg : h.get id = .tip e) (hcur : M.cur id = (b, pos)) (hB : Blk M w b rc) (hB' : ∃ el fz, w'.heap[b]? = some (.cells rc' el fz)) (hfr : ∀ i, i < rc'.size -> w'.frozen? ⟨b, i, none⟩ = false)
  (hsz : rc'.size = rc.size) (hpos : pos + k <= rc.size) (hold : ∀ i, i < pos -> rc'[i]? = rc[i]?) (hk0 : 0 < k)
  (hk : ∀ j, j ≠ b -> w'.heap[j]? = w.heap[j]?) (hs : w'.heap.size = w.heap.size) (hr : w'.os = w.os /\ w'.tape = w.tape /\ w'.output = w.output) :
  ∃ M', Inv M' (h.set id (.tip (e + k))) w' /\ Pres w.heap.size M h w M' (h.set id (.tip (e + k))) w' /\ M'.tip id = e + k /\ M'.cur id = (b, pos + k) /\ M'.nid = M.nid /\ M'.bsz = M.bsz /\
   (∀ i, i < k -> M'.im b (pos + i) = rc'[pos + i]?) := by
 obtain ⟨h0, b', e', rc0, h1, h2, h3, h4⟩ := a.tips id e hg
 rw [hcur] at h1; simp at h1; obtain ⟨rfl, rfl⟩ := h1
 obtain ⟨el, fz, hB'⟩ := hB'
 let M' : Meta := { M with tip := fun i => if i = id then e + k else M.tip i, cur := fun i => if i = id then (b, pos + k) else M.cur i, im := fun c o => if c = b /\ pos <= o /\ o < pos + k then rc'[o]? else M.im c o }
 have hidlt : id < h.next := by
  rcases Nat.lt_or_ge id h.next with hl | hl
  ·exact hl
  ·rw [a.fresh id hl] at hg; simp at hg
 have hE : Ext M M' := ⟨Nat.le_refl _, fun _ _ x => x, fun c o v x => by
   simp only [M']
   split
   ·rename_i hc
    obtain ⟨rfl, q1, q2⟩ := hc
    rw [h4 o q1] at x; simp at x
   ·exact x, fun _ _ x => x, fun i hi => by
    simp only [M']; split
    ·rename_i e; subst e; omega
    ·exact Nat.le_refl _, fun i hi ht => by
    simp only [M'] at ht ⊢
    split at ht
    ·rename_i e; subst e; omega
    ·rename_i e; rw [if_neg e]⟩
 refine ⟨M', ?_⟩
 have hmain : Inv M' (h.set id (.tip (e + k))) w' /\ Pres w.heap.size M h w M' (h.set id (.tip (e + k))) w' := by
  refine UpdS.done (S := fun j => j = id) (tb := b) ?_ a
  refine {
    get := fun j hj => by rw [Heap.get_set, if_neg hj], loc := fun _ _ => rfl, tip := fun j hj => by simp [M', hj], cur := fun j hj => by simp [M', hj], heap := fun j _ hj => hk j hj, im := fun c o hc => by simp [M', hc], bsz := fun _ _ => rfl, size := (by omega),
    os := hr.1, tape := hr.2.1, output := hr.2.2, own := .inl ⟨id, rfl, by simp [Wb, hg, hcur]⟩, wb := ?_, one := fun i i' e e' _ _ => e.trans e'.symm, ext := hE, nid := a.nid, fresh := ?_, freshl := a.freshl, imtb := ?_, bsztb := ?_, cells := ?_, tips := ?_, maps := ?_, resv := fun i hi e => by subst hi; simp [Heap.get_set] at e }
  ·intro i c e ew
   subst e
   simp [Wb, Heap.get_set, M'] at ew
   exact ew.symm
  ·intro j hj
   rw [Heap.next_set] at hj
   rw [Heap.get_set, if_neg (by omega)]
   exact a.fresh j hj
  ·intro off v x
   simp only [M'] at x
   simp only [World.cell?, hB', Option.isSome_none, Bool.false_eq_true, if_false]
   split at x
   ·exact x
   ·have := a.im b off v x
    have hlt : off < pos := by
     rcases Nat.lt_or_ge off pos with q | q
     ·exact q
     ·rw [h4 off q] at x; simp at x
    obtain ⟨el0, fz0, hb0⟩ := hB.at_
    simp only [World.cell?, hb0, Option.isSome_none, Bool.false_eq_true, if_false] at this
    rw [hold off hlt]; exact this
  ·intro n x; exact hs ▸ a.bsz b n x
  ·intro i n e eg; subst e; simp [Heap.get_set] at eg
  ·intro i n e eg
   subst e
   simp [Heap.get_set] at eg; subst eg
   refine ⟨by simp [M'], pos + k, rc', by simp [M'], ⟨⟨el, fz, hB'⟩, hfr, by show M.bsz b = _; rw [hB.bsz, hsz]⟩, by omega, fun off ho => ?_⟩
   simp only [M']
   rw [if_neg (by omega)]
   exact h4 off (by omega)
  ·intro i n e eg; subst e; simp [Heap.get_set] at eg
 refine ⟨hmain.1, hmain.2, by simp [M'], by simp [M'], rfl, rfl, fun i hi => ?_⟩
 simp only [M']
 rw [if_pos ⟨trivial, by omega, by omega⟩]
theorem tip_new {id e k n : Nat} {rc : Array Value} {el : TypeId} {fz : Nat × Nat} (hg : h.get id = .tip e) (nb : NewBlk w w' (.cells rc el fz)) (hf : fz.2 <= fz.1 \/ rc.size <= fz.1) (hn : n <= rc.size) (hk0 : 0 < k) :
  ∃ M', Inv M' (h.set id (.tip (e + k))) w' /\ Pres w.heap.size M h w M' (h.set id (.tip (e + k))) w' /\ M'.tip id = e + k /\ M'.cur id = (w.heap.size, n) /\ M'.nid = M.nid /\ M'.bsz w.heap.size = some rc.size /\
   (∀ i, i < n -> M'.im w.heap.size i = rc[i]?) := by
 obtain ⟨h0, b', e', rc0, h1, h2, h3, h4⟩ := a.tips id e hg
 let M' : Meta := { M with tip := fun i => if i = id then e + k else M.tip i, cur := fun i => if i = id then (w.heap.size, n) else M.cur i, im := fun c o => if c = w.heap.size then (if o < n then rc[o]? else none) else M.im c o, bsz := fun b => if b = w.heap.size then some rc.size else M.bsz b }
 have hidlt : id < h.next := by
  rcases Nat.lt_or_ge id h.next with hl | hl
  ·exact hl
  ·rw [a.fresh id hl] at hg; simp at hg
 have hE : Ext M M' := ⟨Nat.le_refl _, fun _ _ x => x, fun c o v x => by
   simp only [M']
   rw [if_neg (by have := a.im_lt x; omega)]
   exact x, fun c n' x => by
   simp only [M']
   rw [if_neg (by have := a.bsz c n' x; omega)]
   exact x, fun i hi => by
    simp only [M']; split
    ·rename_i e; subst e; omega
    ·exact Nat.le_refl _, fun i hi ht => by
    simp only [M'] at ht ⊢
    split at ht
    ·rename_i e; subst e; omega
    ·rename_i e; rw [if_neg e]⟩
 refine ⟨M', ?_⟩
 have hmain : Inv M' (h.set id (.tip (e + k))) w' /\ Pres w.heap.size M h w M' (h.set id (.tip (e + k))) w' := by
  refine UpdS.done (S := fun j => j = id) (tb := w.heap.size) ?_ a
  refine {
    get := fun j hj => by rw [Heap.get_set, if_neg hj], loc := fun _ _ => rfl, tip := fun j hj => by simp [M', hj], cur := fun j hj => by simp [M', hj], heap := fun j hj _ => nb.old j hj, im := fun c o hc => by simp [M', hc], bsz := fun c hc => by simp [M', hc], size := (by rw [nb.size]; omega),
    os := nb.os, tape := nb.tape, output := nb.output, own := .inr rfl, wb := ?_, one := fun i i' e e' _ _ => e.trans e'.symm, ext := hE, nid := a.nid, fresh := ?_, freshl := a.freshl, imtb := ?_, bsztb := ?_, cells := ?_, tips := ?_, maps := ?_, resv := fun i hi e => by subst hi; simp [Heap.get_set] at e }
  ·intro i c e ew
   subst e
   simp [Wb, Heap.get_set, M'] at ew
   exact ew.symm
  ·intro j hj
   rw [Heap.next_set] at hj
   rw [Heap.get_set, if_neg (by omega)]
   exact a.fresh j hj
  ·intro off v x
   simp only [M', if_true] at x
   simp only [World.cell?, nb.new, Option.isSome_none, Bool.false_eq_true, if_false]
   split at x
   ·exact x
   ·simp at x
  ·intro n' x; rw [nb.size]; omega
  ·intro i n e eg; subst e; simp [Heap.get_set] at eg
  ·intro i n' e eg
   subst e
   simp [Heap.get_set] at eg; subst eg
   exact ⟨by simp [M'], n, rc, by simp [M'], ⟨⟨el, fz, nb.new⟩, fun i hi => frozen_new nb.new hf i hi, by simp [M']⟩, hn, fun off ho => by simp [M']; omega⟩
  ·intro i n e eg; subst e; simp [Heap.get_set] at eg
 refine ⟨hmain.1, hmain.2, by simp [M'], by simp [M'], rfl, by simp [M'], fun i hi => ?_⟩
 simp only [M', if_true]
 rw [if_pos hi]
theorem cells_here {id b : Nat} {cs cs' : List IV} {rc' : Array Value} (hg : h.get id = .cells cs) (hb : M.loc id = some b) (hk : ∀ k, k ≠ b -> w'.heap[k]? = w.heap[k]?) (hs : w'.heap.size = w.heap.size)
  (hr : w'.os = w.os /\ w'.tape = w.tape /\ w'.output = w.output) (hB : Blk M w' b rc') (hle : cs'.length <= rc'.size) (hc : CRs M cs' (rc'.toList.take cs'.length)) :
  ∃ M', Inv M' ((h.set id .dead).push (.cells cs')) w' /\ Pres w.heap.size M h w M' ((h.set id .dead).push (.cells cs')) w' /\ M'.loc h.next = some b /\ M'.bsz b = some rc'.size := by
 obtain ⟨b', rc, h1, h2, h3, h4, h5⟩ := a.cells id cs hg
 rw [hb] at h1; simp at h1; subst h1
 have hidlt : id < h.next := by
  rcases Nat.lt_or_ge id h.next with hl | hl
  ·exact hl
  ·rw [a.fresh id hl] at hg; simp at hg
 let M' : Meta := { M with nid := M.nid + 1, loc := fun i => if i = h.next then some b else M.loc i }
 have hE : Ext M M' := ⟨by simp [M'], fun i c x => by
   simp only [M']; rw [if_neg]; exact x
   intro e; subst e; rw [a.freshl _ (Nat.le_refl _)] at x; simp at x, fun _ _ _ x => x, fun _ _ x => x, fun _ _ => Nat.le_refl _, fun _ _ _ => rfl⟩
 refine ⟨M', ?_⟩
 have hg' : ∀ j, ((h.set id .dead).push (.cells cs')).get j = if j = h.next then .cells cs' else if j = id then .dead else h.get j := by
  intro j; rw [Heap.get_push, Heap.next_set, Heap.get_set]
 have hmain : Inv M' ((h.set id .dead).push (.cells cs')) w' /\ Pres w.heap.size M h w M' ((h.set id .dead).push (.cells cs')) w' := by
  refine UpdS.done (S := fun j => j = id \/ j = h.next) (tb := b) ?_ a
  have w1 : Wb M' ((h.set id .dead).push (.cells cs')) id = none := by simp [Wb, hg', show id ≠ h.next by omega]
  have w2 : Wb M' ((h.set id .dead).push (.cells cs')) h.next = some b := by simp [Wb, hg', M']
  refine {
    get := fun j hj => by rw [hg', if_neg (fun e => hj (.inr e)), if_neg (fun e => hj (.inl e))], loc := fun j hj => by simp [M', show j ≠ h.next from fun e => hj (.inr e)], tip := fun _ _ => rfl, cur := fun _ _ => rfl, heap := fun k _ hk' => hk k hk', im := fun _ _ _ => rfl, bsz := fun _ _ => rfl, size := (by omega),
    os := hr.1, tape := hr.2.1, output := hr.2.2, own := .inl ⟨id, .inl rfl, by simp [Wb, hg, hb]⟩, wb := ?_, one := ?_, ext := hE, nid := ?_, fresh := ?_, freshl := ?_, imtb := ?_, bsztb := ?_, cells := ?_, tips := ?_, maps := ?_, resv := fun i hi e => by rw [hg'] at e; rcases hi with rfl | rfl <;> (repeat' split at e) <;> simp_all }
  ·rintro i c (rfl | rfl) ew
   ·rw [w1] at ew; simp at ew
   ·rw [w2] at ew; simp at ew; exact ew.symm
  ·rintro i i' (rfl | rfl) (rfl | rfl) e1 e2
   ·rfl
   ·rw [w1] at e1; simp at e1
   ·rw [w1] at e2; simp at e2
   ·rfl
  ·show M.nid + 1 = _; rw [a.nid]; rfl
  ·intro j hj
   have hj' : h.next + 1 <= j := hj
   rw [hg', if_neg (by omega), if_neg (by omega)]
   exact a.fresh j (by omega)
  ·intro j hj
   have hj' : h.next + 1 <= j := hj
   simp only [M']
   rw [if_neg (by omega)]
   exact a.freshl j (by omega)
  ·intro off v e
   have e' : M.im b off = some v := e
   rw [h5] at e'; simp at e'
  ·intro n e; exact hs ▸ a.bsz b n e
  ·rintro i cs'' (rfl | rfl) eg
   ·rw [hg', if_neg (by omega)] at eg; simp at eg
   ·rw [hg', if_pos rfl] at eg
    simp at eg; subst eg
    exact ⟨rc', by simp [M'], ⟨hB.at_, hB.free, hB.bsz⟩, hle, hc.mono hE, h5⟩
  ·rintro i n (rfl | rfl) eg
   ·rw [hg', if_neg (by omega)] at eg; simp at eg
   ·rw [hg', if_pos rfl] at eg; simp at eg
  ·rintro i n (rfl | rfl) eg
   ·rw [hg', if_neg (by omega)] at eg; simp at eg
   ·rw [hg', if_pos rfl] at eg; simp at eg
 exact ⟨hmain.1, hmain.2, by simp [M'], hB.bsz⟩
theorem cells_new {id : Nat} {cs cs' : List IV} {rc : Array Value} {el : TypeId} {fz : Nat × Nat} (hg : h.get id = .cells cs) (nb : NewBlk w w' (.cells rc el fz)) (hf : fz.2 <= fz.1 \/ rc.size <= fz.1) (hle : cs'.length <= rc.size) (hc : CRs M cs' (rc.toList.take cs'.length)) :
  ∃ M', Inv M' ((h.set id .dead).push (.cells cs')) w' /\ Pres w.heap.size M h w M' ((h.set id .dead).push (.cells cs')) w' /\ M'.loc h.next = some w.heap.size /\ M'.bsz w.heap.size = some rc.size := by
 have hidlt : id < h.next := by
  rcases Nat.lt_or_ge id h.next with hl | hl
  ·exact hl
  ·rw [a.fresh id hl] at hg; simp at hg
 let M' : Meta := { M with nid := M.nid + 1, loc := fun i => if i = h.next then some w.heap.size else M.loc i, bsz := fun b => if b = w.heap.size then some rc.size else M.bsz b }
 have hE : Ext M M' := ⟨by simp [M'], fun i c x => by
   simp only [M']; rw [if_neg]; exact x
   intro e; subst e; rw [a.freshl _ (Nat.le_refl _)] at x; simp at x, fun _ _ _ x => x, fun c n x => by
   simp only [M']; rw [if_neg (by have := a.bsz c n x; omega)]; exact x, fun _ _ => Nat.le_refl _, fun _ _ _ => rfl⟩
 have himn : ∀ off, M.im w.heap.size off = none := by
  intro off
  cases e : M.im w.heap.size off with
  | none => rfl
  | some v => have := a.im_lt e; omega
 refine ⟨M', ?_⟩
 have hg' : ∀ j, ((h.set id .dead).push (.cells cs')).get j = if j = h.next then .cells cs' else if j = id then .dead else h.get j := by
  intro j; rw [Heap.get_push, Heap.next_set, Heap.get_set]
 have hmain : Inv M' ((h.set id .dead).push (.cells cs')) w' /\ Pres w.heap.size M h w M' ((h.set id .dead).push (.cells cs')) w' := by
  refine UpdS.done (S := fun j => j = id \/ j = h.next) (tb := w.heap.size) ?_ a
  have w1 : Wb M' ((h.set id .dead).push (.cells cs')) id = none := by simp [Wb, hg', show id ≠ h.next by omega]
  have w2 : Wb M' ((h.set id .dead).push (.cells cs')) h.next = some w.heap.size := by simp [Wb, hg', M']
  refine {
    get := fun j hj => by rw [hg', if_neg (fun e => hj (.inr e)), if_neg (fun e => hj (.inl e))], loc := fun j hj => by simp [M', show j ≠ h.next from fun e => hj (.inr e)], tip := fun _ _ => rfl, cur := fun _ _ => rfl, heap := fun k hk' _ => nb.old k hk', im := fun _ _ _ => rfl, bsz := fun c hc => by simp [M', hc], size := (by rw [nb.size]; omega),
    os := nb.os, tape := nb.tape, output := nb.output, own := .inr rfl, wb := ?_, one := ?_, ext := hE, nid := ?_, fresh := ?_, freshl := ?_, imtb := ?_, bsztb := ?_, cells := ?_, tips := ?_, maps := ?_, resv := fun i hi e => by rw [hg'] at e; rcases hi with rfl | rfl <;> (repeat' split at e) <;> simp_all }
  ·rintro i c (rfl | rfl) ew
   ·rw [w1] at ew; simp at ew
   ·rw [w2] at ew; simp at ew; exact ew.symm
  ·rintro i i' (rfl | rfl) (rfl | rfl) e1 e2
   ·rfl
   ·rw [w1] at e1; simp at e1
   ·rw [w1] at e2; simp at e2
   ·rfl
  ·show M.nid + 1 = _; rw [a.nid]; rfl
  ·intro j hj
   have hj' : h.next + 1 <= j := hj
   rw [hg', if_neg (by omega), if_neg (by omega)]
   exact a.fresh j (by omega)
  ·intro j hj
   have hj' : h.next + 1 <= j := hj
   simp only [M']
   rw [if_neg (by omega)]
   exact a.freshl j (by omega)
  ·intro off v e
   have e' : M.im w.heap.size off = some v := e
   rw [himn] at e'; simp at e'
  ·intro n e; rw [nb.size]; omega
  ·rintro i cs'' (rfl | rfl) eg
   ·rw [hg', if_neg (by omega)] at eg; simp at eg
   ·rw [hg', if_pos rfl] at eg
    simp at eg; subst eg
    exact ⟨rc, by simp [M'], ⟨⟨el, fz, nb.new⟩, fun i hi => frozen_new nb.new hf i hi, by simp [M']⟩, hle, hc.mono hE, himn⟩
  ·rintro i n (rfl | rfl) eg
   ·rw [hg', if_neg (by omega)] at eg; simp at eg
   ·rw [hg', if_pos rfl] at eg; simp at eg
  ·rintro i n (rfl | rfl) eg
   ·rw [hg', if_neg (by omega)] at eg; simp at eg
   ·rw [hg', if_pos rfl] at eg; simp at eg
 exact ⟨hmain.1, hmain.2, by simp [M'], by simp [M']⟩
end
end Go.Pv
