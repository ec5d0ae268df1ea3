import Derived.Test.YtmfnadojephcpaaPvHeap
set_option linter.unusedVariables false
set_option linter.unusedSimpArgs false
namespace Go.Pv
open Go
section
variable {M : Meta} {h : Heap} {w w' : World} (a : Inv M h w)
include a
theorem Inv.res_lt {n : Nat} (hf : h.get n = .free) : n < h.next := by
 rcases Nat.lt_or_ge n h.next with hl | hl
 ·exact hl
 ·rw [a.fresh n hl] at hf; simp at hf
theorem Inv.im_none (off : Nat) : M.im w.heap.size off = none := by
 cases e : M.im w.heap.size off with
 | none => rfl
 | some v => have := a.im_lt e; omega
theorem lay_cells {n : Nat} (hn : h.get n = .free) {rc : Array Value} {el : TypeId} {fz : Nat × Nat} (nb : NewBlk w w' (.cells rc el fz)) (hf : fz.2 <= fz.1 \/ rc.size <= fz.1) {cs : List IV} (hle : cs.length <= rc.size) (hc : CRs M cs (rc.toList.take cs.length)) :
  ∃ M', Inv M' (h.set n (.cells cs)) w' /\ Pres w.heap.size M h w M' (h.set n (.cells cs)) w' /\ M'.loc n = some w.heap.size /\ M'.bsz w.heap.size = some rc.size := by
 obtain ⟨r1, r2⟩ := a.resv n hn
 have hlt := a.res_lt hn
 let M' : Meta := { M with loc := fun i => if i = n then some w.heap.size else M.loc i, bsz := fun b => if b = w.heap.size then some rc.size else M.bsz b }
 have hE : Ext M M' := ⟨Nat.le_refl _, fun i c x => by
   simp only [M']; rw [if_neg]; exact x
   intro e; subst e; rw [r1] at x; simp at x, fun _ _ _ x => x, fun c k x => by
   simp only [M']; rw [if_neg (by have := a.bsz c k x; omega)]; exact x, fun _ _ => Nat.le_refl _, fun _ _ _ => rfl⟩
 have hmain : Inv M' (h.set n (.cells cs)) w' /\ Pres w.heap.size M h w M' (h.set n (.cells cs)) w' := by
  refine UpdS.done (S := fun j => j = n) (tb := w.heap.size) ?_ a
  refine {
    get := fun j hj => by rw [Heap.get_set, if_neg hj], loc := fun j hj => by simp [M', show j ≠ n from hj], tip := fun _ _ => rfl, cur := fun _ _ => rfl, heap := fun k hk' _ => nb.old k hk', im := fun _ _ _ => rfl, bsz := fun c hc => by simp [M', hc], size := (by rw [nb.size]; omega),
    os := nb.os, tape := nb.tape, output := nb.output, own := .inr rfl, wb := ?_, one := fun i i' e e' _ _ => e.trans e'.symm, ext := hE, nid := a.nid, fresh := ?_, freshl := ?_, imtb := ?_, bsztb := ?_, cells := ?_, tips := ?_, maps := ?_, resv := fun i hi e => by subst hi; simp [Heap.get_set] at e }
  ·rintro i c rfl ew
   simp [Wb, Heap.get_set, M'] at ew; exact ew.symm
  ·intro j hj
   have hj' : h.next <= j := hj
   rw [Heap.get_set, if_neg (by omega)]
   exact a.fresh j hj'
  ·intro j hj
   have hj' : h.next <= j := hj
   simp only [M']
   rw [if_neg (by omega)]
   exact a.freshl j hj'
  ·intro off v e
   have e' : M.im w.heap.size off = some v := e
   rw [a.im_none] at e'; simp at e'
  ·intro k e; rw [nb.size]; omega
  ·rintro i cs'' rfl eg
   simp [Heap.get_set] at eg; subst eg
   exact ⟨rc, by simp [M'], ⟨⟨el, fz, nb.new⟩, fun i hi => frozen_new nb.new hf i hi, by simp [M']⟩, hle, hc.mono hE, fun off => a.im_none off⟩
  ·rintro i k rfl eg; simp [Heap.get_set] at eg
  ·rintro i k rfl eg; simp [Heap.get_set] at eg
 exact ⟨M', hmain.1, hmain.2, by simp [M'], by simp [M']⟩
theorem lay_map {n : Nat} (hn : h.get n = .free) (nb : NewBlk w w' (.map #[] 0)) :
  ∃ M', Inv M' (h.set n (.map [])) w' /\ Pres w.heap.size M h w M' (h.set n (.map [])) w' /\ M'.loc n = some w.heap.size := by
 obtain ⟨r1, r2⟩ := a.resv n hn
 have hlt := a.res_lt hn
 let M' : Meta := { M with loc := fun i => if i = n then some w.heap.size else M.loc i }
 have hE : Ext M M' := ⟨Nat.le_refl _, fun i c x => by
   simp only [M']; rw [if_neg]; exact x
   intro e; subst e; rw [r1] at x; simp at x, fun _ _ _ x => x, fun c k x => x, fun _ _ => Nat.le_refl _, fun _ _ _ => rfl⟩
 have hmain : Inv M' (h.set n (.map [])) w' /\ Pres w.heap.size M h w M' (h.set n (.map [])) w' := by
  refine UpdS.done (S := fun j => j = n) (tb := w.heap.size) ?_ a
  refine {
    get := fun j hj => by rw [Heap.get_set, if_neg hj], loc := fun j hj => by simp [M', show j ≠ n from hj], tip := fun _ _ => rfl, cur := fun _ _ => rfl, heap := fun k hk' _ => nb.old k hk', im := fun _ _ _ => rfl, bsz := fun c hc => rfl, size := (by rw [nb.size]; omega),
    os := nb.os, tape := nb.tape, output := nb.output, own := .inr rfl, wb := ?_, one := fun i i' e e' _ _ => e.trans e'.symm, ext := hE, nid := a.nid, fresh := ?_, freshl := ?_, imtb := ?_, bsztb := ?_, cells := ?_, tips := ?_, maps := ?_, resv := fun i hi e => by subst hi; simp [Heap.get_set] at e }
  ·rintro i c rfl ew
   simp [Wb, Heap.get_set, M'] at ew; exact ew.symm
  ·intro j hj
   have hj' : h.next <= j := hj
   rw [Heap.get_set, if_neg (by omega)]
   exact a.fresh j hj'
  ·intro j hj
   have hj' : h.next <= j := hj
   simp only [M']
   rw [if_neg (by omega)]
   exact a.freshl j hj'
  ·intro off v e
   have e' : M.im w.heap.size off = some v := e
   rw [a.im_none] at e'; simp at e'
  ·intro k e; rw [nb.size]; omega
  ·rintro i cs'' rfl eg; simp [Heap.get_set] at eg
  ·rintro i k rfl eg; simp [Heap.get_set] at eg
  ·rintro i es rfl eg
   simp [Heap.get_set] at eg; subst eg
   exact ⟨#[], 0, by simp [M'], nb.new, ⟨VRs.nil _, VRs.nil _⟩, Brn.nil⟩
 exact ⟨M', hmain.1, hmain.2, by simp [M']⟩
theorem lay_tip {n : Nat} (hn : h.get n = .free) {rc : Array Value} {el : TypeId} {fz : Nat × Nat} (nb : NewBlk w w' (.cells rc el fz)) (hf : fz.2 <= fz.1 \/ rc.size <= fz.1) {cs : List IV} {len sz cap : Nat} (hl : cs.length = len * sz) (h0 : 0 < cs.length) (hlen : len <= cap) (hcap : cap * sz <= rc.size)
  (hc : CRs M cs (rc.toList.take cs.length)) :
  ∃ M', Inv M' (h.set n (.tip (len * sz))) w' /\ Pres w.heap.size M h w M' (h.set n (.tip (len * sz))) w' /\ VR M' (.vslice (some n) (len * sz) len sz cs) (.slice (some ⟨w.heap.size, 0, none⟩) len cap) := by
 obtain ⟨r1, r2⟩ := a.resv n hn
 have hlt := a.res_lt hn
 have hle : cs.length <= rc.size := by
  have : len * sz <= cap * sz := Nat.mul_le_mul_right _ hlen
  omega
 let M' : Meta := { M with tip := fun i => if i = n then cs.length else M.tip i, cur := fun i => if i = n then (w.heap.size, cs.length) else M.cur i, im := fun b o => if b = w.heap.size then (if o < cs.length then rc[o]? else none) else M.im b o, bsz := fun b => if b = w.heap.size then some rc.size else M.bsz b }
 have hE : Ext M M' := ⟨Nat.le_refl _, fun _ _ x => x, fun c o v x => by
   simp only [M']; rw [if_neg (by have := a.im_lt x; omega)]; exact x, fun c k x => by
   simp only [M']; rw [if_neg (by have := a.bsz c k x; omega)]; exact x, fun i _ => by
   simp only [M']
   by_cases e : i = n
   ·rw [if_pos e, e, r2]; exact Nat.zero_le _
   ·rw [if_neg e]; exact Nat.le_refl _, fun i _ q => by
   simp only [M'] at q ⊢
   by_cases e : i = n
   ·rw [if_pos e, e, r2] at q; omega
   ·rw [if_neg e]⟩
 rw [<- hl]
 have hmain : Inv M' (h.set n (.tip cs.length)) w' /\ Pres w.heap.size M h w M' (h.set n (.tip cs.length)) w' := by
  refine UpdS.done (S := fun j => j = n) (tb := w.heap.size) ?_ a
  refine {
    get := fun j hj => by rw [Heap.get_set, if_neg hj], loc := fun j hj => rfl, tip := fun j hj => by simp [M', show j ≠ n from hj], cur := fun j hj => by simp [M', show j ≠ n from hj], heap := fun k hk' _ => nb.old k hk', im := fun c o hc => by simp [M', hc], bsz := fun c hc => by simp [M', hc], size := (by rw [nb.size]; omega),
    os := nb.os, tape := nb.tape, output := nb.output, own := .inr rfl, wb := ?_, one := fun i i' e e' _ _ => e.trans e'.symm, ext := hE, nid := a.nid, fresh := ?_, freshl := fun j hj => a.freshl j hj, imtb := ?_, bsztb := ?_, cells := ?_, tips := ?_, maps := ?_, resv := fun i hi e => by subst hi; simp [Heap.get_set] at e }
  ·rintro i c rfl ew
   simp [Wb, Heap.get_set, M'] at ew; exact ew.symm
  ·intro j hj
   have hj' : h.next <= j := hj
   rw [Heap.get_set, if_neg (by omega)]
   exact a.fresh j hj'
  ·intro off v e
   simp only [M', if_true] at e
   split at e
   ·simp only [World.cell?, nb.new, Option.isSome_none, Bool.false_eq_true, if_false]; exact e
   ·simp at e
  ·intro k e; rw [nb.size]; omega
  ·rintro i cs'' rfl eg; simp [Heap.get_set] at eg
  ·rintro i k rfl eg
   simp [Heap.get_set] at eg; subst eg
   exact ⟨by simp [M'], cs.length, rc, by simp [M'], ⟨⟨el, fz, nb.new⟩, fun i hi => frozen_new nb.new hf i hi, by simp [M']⟩, hle, fun off ho => by simp [M']; omega⟩
  ·rintro i es rfl eg; simp [Heap.get_set] at eg
 refine ⟨M', hmain.1, hmain.2, ?_⟩
 have hc' := hc.mono hE
 refine .vslice ⟨w.heap.size, 0, none⟩ (fun i => rc.getD i undef) hl hlen (.inr ⟨rfl, rc.size, by simp [M'], by simpa using hcap⟩) ?_ ?_ hc'.2 ?_ (by simp)
 ·intro i hi
  simp [M', hi, show i < rc.size by omega]
 ·intro i hi
  have := hc'.1.2 i hi (by simp; omega)
  simpa [show i < rc.size by omega] using this
 ·intro i e
  simp at e; subst e
  exact ⟨by show n < M.nid; rw [a.nid]; exact hlt, Nat.le_refl _, by simp [M'], fun _ => .inr (by simp [M'])⟩
end
end Go.Pv
