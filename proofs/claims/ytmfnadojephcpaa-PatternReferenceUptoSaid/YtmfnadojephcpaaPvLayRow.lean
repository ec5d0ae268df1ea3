import Derived.Test.YtmfnadojephcpaaPvRow
import Derived.Test.YtmfnadojephcpaaPvLay
set_option linter.unusedVariables false
namespace Go.Pv
open Go
def newRowAt (h : Heap) (n way len sz : Nat) (cs : List IV) : IV × Heap := (rowVal n way len sz cs, h.set n (rowObj way len sz cs))
theorem newRowAt_ok {M : Meta} {h : Heap} {w w' : World} (a : Inv M h w) {n : Nat} (hn0 : h.get n = .free) (way : Nat) {len sz cap : Nat} {cs : List IV} (h0 : way = 0 -> 0 < cs.length) {rc : Array Value} {el : TypeId} {fz : Nat × Nat} (nb : NewBlk w w' (.cells rc el fz)) (hf : fz.2 <= fz.1 \/ rc.size <= fz.1) (hn : cs.length = len * sz) (hlen : len <= cap)
  (hcap : cap * sz <= rc.size) (hc : CRs M cs (rc.toList.take cs.length)) :
  ∃ M', Inv M' (newRowAt h n way len sz cs).2 w' /\ Pres w.heap.size M h w M' (newRowAt h n way len sz cs).2 w' /\ VR M' (newRowAt h n way len sz cs).1 (.slice (some ⟨w.heap.size, 0, none⟩) len cap) := by
 unfold newRowAt rowVal rowObj
 by_cases hw : way = 0
 ·simp only [if_pos hw]
  exact lay_tip a hn0 nb hf hn (h0 hw) hlen hcap hc
 ·simp only [if_neg hw]
  obtain ⟨M', h1, h2, h3, h4⟩ := lay_cells a hn0 nb hf (by rw [hn]; exact Nat.le_trans (Nat.mul_le_mul_right _ hlen) hcap) hc
  exact ⟨M', h1, h2, .hslice _ h3 (.inr ⟨rfl, rc.size, h4, by omega⟩) hlen⟩
theorem Heap.next_reserve (h : Heap) : ∀ k, (h.reserve k).next = h.next + k
 | 0 => rfl
 | k + 1 => by
   show (h.reserve k).next + 1 = _
   rw [Heap.next_reserve h k]
   omega
theorem Inv.free1 {M : Meta} {h : Heap} {w : World} (a : Inv M h w) : ∃ M', Inv M' (h.push .free) w /\ Pres w.heap.size M h w M' (h.push .free) w := by
 let M' : Meta := { M with nid := M.nid + 1, tip := fun i => if i = h.next then 0 else M.tip i }
 have hE : Ext M M' := ⟨by simp [M'], fun _ _ x => x, fun _ _ _ x => x, fun _ _ x => x, fun i hi => by
   simp only [M']; rw [if_neg (by have := a.nid; omega)]; exact Nat.le_refl _, fun i hi _ => rfl⟩
 have hg : ∀ j, (h.push .free).get j = if j = h.next then .free else h.get j := fun j => Heap.get_push h j .free
 have hblk : ∀ {b rc}, Blk M w b rc -> Blk M' w b rc := fun l => ⟨l.at_, l.free, l.bsz⟩
 have hwb : ∀ j, Wb M' (h.push .free) j = Wb M h j := fun j => by
  by_cases e : j = h.next
  ·subst e
   simp [Wb, hg, a.fresh h.next (Nat.le_refl _)]
  ·simp only [Wb, hg, if_neg e, M']
 refine ⟨M', ?_, ⟨hE, Nat.le_refl _, rfl, rfl, rfl, fun b hb hn => ⟨rfl, ?_, fun _ => rfl⟩⟩⟩
 ·exact {
   nid := by show M.nid + 1 = _; rw [a.nid, Heap.next_push]
   fresh := fun id hid => by
    rw [Heap.next_push] at hid
    rw [hg, if_neg (by omega)]
    exact a.fresh id (by omega)
   freshl := fun id hid => by
    rw [Heap.next_push] at hid
    exact a.freshl id (by omega)
   cells := fun id cs e => by
    rw [hg] at e
    split at e
    ·simp at e
    ·obtain ⟨b, rc, h1, h2, h3, h4, h5⟩ := a.cells id cs e
     exact ⟨b, rc, h1, hblk h2, h3, h4.mono hE, h5⟩
   tips := fun id k e => by
    rw [hg] at e
    split at e
    ·simp at e
    ·rename_i hi
     obtain ⟨h0, b, e', rc, h1, h2, h3⟩ := a.tips id k e
     exact ⟨by simp only [M']; rw [if_neg hi]; exact h0, b, e', rc, h1, hblk h2, h3⟩
   maps := fun id es e => by
    rw [hg] at e
    split at e
    ·simp at e
    ·obtain ⟨b, ents, cl, h1, h2, h3⟩ := a.maps id es e
     exact ⟨b, ents, cl, h1, h2, h3.1.mono hE, h3.2⟩
   im := a.im
   bsz := a.bsz
   one := fun id id' b e e' => by
    rw [hwb] at e e'
    exact a.one id id' b e e'
   resv := fun id e => by
    rw [hg] at e
    split at e
    ·rename_i hi
     subst hi
     exact ⟨a.freshl _ (Nat.le_refl _), by simp [M']⟩
    ·rename_i hi
     simp only [M']
     rw [if_neg hi]
     exact a.resv id e }
 ·rintro ⟨id, e⟩
  rw [hwb] at e
  exact hn ⟨id, e⟩
theorem Inv.reserve {M : Meta} {h : Heap} {w : World} (a : Inv M h w) : ∀ k, ∃ M', Inv M' (h.reserve k) w /\ Pres w.heap.size M h w M' (h.reserve k) w
 | 0 => ⟨M, a, Pres.refl _ _ _ _⟩
 | k + 1 => by
   obtain ⟨M1, b1, b2⟩ := a.reserve k
   obtain ⟨M2, c1, c2⟩ := b1.free1
   exact ⟨M2, c1, b2.trans c2⟩
end Go.Pv
