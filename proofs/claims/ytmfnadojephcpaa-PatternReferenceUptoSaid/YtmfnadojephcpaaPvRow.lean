import Derived.Test.YtmfnadojephcpaaPvRead
import Derived.Deep.AppendSrc
import Derived.Laws.AppendOwn
namespace Go.Pv
section
variable {M : Meta} {h : Heap} {w w' : World}
theorem repl_length (n : Nat) (z : List IV) : (repl n z).length = n * z.length := by
 induction n with
 | zero => simp [repl]
 | succ n ih => simp only [repl, List.length_append, ih, Nat.add_mul]; omega
theorem repl_get (z : List IV) (h0 : 0 < z.length) : ∀ (n i : Nat), i < n * z.length -> (repl n z)[i]? = z[i % z.length]?
 | 0, i, hi => by omega
 | n + 1, i, hi => by
   rw [Nat.add_mul] at hi
   simp only [repl]
   by_cases hlt : i < z.length
   ·rw [List.getElem?_append_left hlt, Nat.mod_eq_of_lt hlt]
   ·rw [List.getElem?_append_right (by omega), repl_get z h0 n (i - z.length) (by omega)]
    rw [Nat.mod_eq_sub_mod (by omega : i >= z.length)]
theorem repl_ok {z : List IV} {rz : Array Value} (hz : CRs M z rz.toList) (h0 : 0 < z.length) (n : Nat) :
  CRs M (repl n z) ((Array.range (n * z.length)).map (rz[· % rz.size]!)).toList := by
 have hsz : rz.size = z.length := by have := hz.len; simpa using this.symm
 refine ⟨⟨by simp [repl_length], fun i h1 h2 => ?_⟩, fun i h1 => ?_⟩
 ·rw [repl_length] at h1
  have hm := Nat.mod_lt i h0
  have e1 : (repl n z)[i]? = z[i % z.length]? := repl_get z h0 n i h1
  rw [List.getElem?_eq_getElem (by rw [repl_length]; exact h1), List.getElem?_eq_getElem hm] at e1
  simp only [Option.some.injEq] at e1
  rw [e1]
  have := hz.1.2 (i % z.length) hm (by simp [hsz]; exact hm)
  simpa [hsz, getElem!_pos, hm] using this
 ·have h1' := h1
  rw [repl_length] at h1'
  have hm := Nat.mod_lt i h0
  have e1 : (repl n z)[i]? = z[i % z.length]? := repl_get z h0 n i h1'
  rw [List.getElem?_eq_getElem h1, List.getElem?_eq_getElem hm] at e1
  simp only [Option.some.injEq] at e1
  rw [e1]
  exact hz.2 _ hm
theorem cells_zero {t : TypeId} {z : IV} {i : TypeInfo} {P : Program} (hz : zeroIV P t = some z) (hi : P.info? t = some i) : ∃ r, i.zero = some r /\ CRs M (cellsOf z) r.cells.toList := by
 obtain ⟨i', r, h1, h2, h3, h4⟩ := zeroIV_info (M := M) hz
 rw [hi] at h1; simp at h1; subst h1
 exact ⟨r, h2, vr_cells h3 h4⟩
theorem map_range0 (f g : Nat -> Value) : (Array.range 0).map f = (Array.range 0).map g := by simp
theorem buildSlice_run {P : Program} (w : World) {t e : TypeId} {n sz : Nat} {z : IV} {ps : List (Nat × IV)} {parts : Array (Nat × Value)} {cs : List IV} (hu : P.underlying t = some (.slice e)) (hsz : szOf P e = some (sz + 1))
  (hz : zeroIV P e = some z) (hn : n * (sz + 1) <= 16777216) (hzl : (cellsOf z).length = sz + 1) (hp : PR M ps parts.toList) (h1 : ifill (fun i => some (i * (sz + 1), sz + 1)) (repl n (cellsOf z)) ps = some cs) :
  ∃ ro : Array Value, (Instr.buildSlice t n parts).run P w = .ok (.slice (some ⟨w.heap.size, 0, none⟩) n n) (w.alloc (.cells ro e)) /\ CRs M cs ro.toList /\ cs.length = n * (sz + 1) := by
 obtain ⟨i, hi1, hi2⟩ := szOf_info hsz
 obtain ⟨rz, hz1, hz2⟩ := cells_zero (M := M) hz hi1
 have hrep := repl_ok hz2 (by omega) n
 rw [hzl] at hrep
 obtain ⟨ro, h5, h6⟩ := ifill_ok hp hrep h1
 have hcl : cs.length = n * (sz + 1) := by
  have : ∀ {place : Nat -> Option (Nat × Nat)} {ps : List (Nat × IV)} {c out : List IV}, ifill place c ps = some out -> out.length = c.length := by
   intro place ps
   induction ps with
   | nil => intro c out hh; simp [ifill] at hh; rw [hh]
   | cons p ps ih =>
     intro c out hh
     obtain ⟨pi, pv⟩ := p
     unfold ifill at hh
     split at hh
     ·simp at hh
     ·split at hh
      ·rename_i hc2
       rw [ih hh]
       simp [spl]; omega
      ·simp at hh
  rw [this h1, repl_length, hzl]
 refine ⟨ro, ?_, h6, hcl⟩
 have hi2' : i.size = sz + 1 := hi2
 simp only [Instr.buildSlice, Sem.run_bind, run_underlying hu, Result.andThen_ok, run_sizeOf hi1, hi2']
 rw [if_neg (by omega)]
 by_cases hn0 : n * (sz + 1) = 0
 ·rw [hn0] at h5
  rw [if_pos hn0]
  have h5' : Instr.fill (fun i => some (i * (sz + 1), sz + 1)) ((Array.range (n * (sz + 1))).map fun x => (#[] : Array Value)[x % (#[] : Array Value).size]!) parts.toList = some ro := by
   rw [hn0, map_range0 _ (fun x => rz.cells[x % rz.cells.size]!)]
   exact h5
  simp only [Sem.run_bind, Sem.run_pure, Result.andThen_ok]
  rw [h5']
  simp only [Go.newRow, Sem.run_bind, run_newObj, Result.andThen_ok, Sem.run_pure]
  rfl
 ·rw [if_neg hn0]
  simp only [Sem.run_bind, Sem.run_pure, Result.andThen_ok, run_zeroValue w hi1 hz1]
  rw [h5]
  simp only [Go.newRow, Sem.run_bind, run_newObj, Result.andThen_ok, Sem.run_pure]
  rfl
theorem newRow_ok (a : Inv M h w) (way : Nat) {len sz cap : Nat} {cs : List IV} {rc : Array Value} {el : TypeId} {fz : Nat × Nat} (nb : NewBlk w w' (.cells rc el fz)) (hf : fz.2 <= fz.1 \/ rc.size <= fz.1) (hn : cs.length = len * sz) (hlen : len <= cap)
  (hcap : cap * sz <= rc.size) (hc : CRs M cs (rc.toList.take cs.length)) :
  ∃ M', Inv M' (newRow h way len sz cs).2 w' /\ Pres w.heap.size M h w M' (newRow h way len sz cs).2 w' /\ VR M' (newRow h way len sz cs).1 (.slice (some ⟨w.heap.size, 0, none⟩) len cap) := by
 unfold newRow
 split
 ·exact new_tip a nb hf hn hlen hcap hc
 ·obtain ⟨M', h1, h2, h3, h4⟩ := new_cells a nb hf (by rw [hn]; exact Nat.le_trans (Nat.mul_le_mul_right _ hlen) hcap) hc
  exact ⟨M', h1, h2, .hslice _ h3 (.inr ⟨rfl, rc.size, h4, by omega⟩) hlen⟩
theorem cut_drew (w : World) (x : Obj) : NewBlk w (w.drew.alloc x) x where
 new := by show (w.heap.push x)[w.heap.size]? = _; simp
 old := fun b hb => by show (w.heap.push x)[b]? = _; rw [Array.getElem?_push, if_neg (by omega)]
 size := by simp
 os := rfl
 tape := rfl
 output := rfl
theorem src_ok {P : Program} (a : Inv M h w) {sz n : Nat} {x : IV} {xs : List IV} {r : Value} (hx : VR M x r) (hs : srcCells h sz x = some (n, xs)) :
  xs.length = n * sz /\ (∀ w' : World, (Builtin.lenOf r).run P w' = .ok n w') /\ (∀ i (hi : i < xs.length), isCell xs[i] = true) /\
  ∀ m, m <= n -> ∃ news : List Value, CRs M (xs.take (m * sz)) news /\ news.length = m * sz /\ (Builtin.firstCells sz m r).run P w = .ok news.toArray w /\ (Builtin.firstCells sz m r).run P w.drew = .ok news.toArray w.drew := by
 unfold srcCells at hs
 split at hs
 ·simp at hs; obtain ⟨rfl, rfl⟩ := hs
  cases hx
  refine ⟨by simp, fun _ => rfl, fun i hi => by simp at hi, fun m hm => ?_⟩
  have : m = 0 := by omega
  subst this
  exact ⟨[], by simpa using CRs.nil M, by simp, run_firstCells_none w _ _ _ _, run_firstCells_none w.drew _ _ _ _⟩
 ·split at hs
  case isFalse => simp at hs
  rename_i hz
  subst hz
  simp at hs; obtain ⟨rfl, rfl⟩ := hs
  cases hx with
  | vnil =>
    refine ⟨by simp, fun _ => rfl, fun i hi => by simp at hi, fun m hm => ?_⟩
    have : m = 0 := by omega
    subst this
    exact ⟨[], by simpa using CRs.nil M, by simp, run_firstCells_none w _ _ _ _, run_firstCells_none w.drew _ _ _ _⟩
  | @vslice _ _ _ _ cap _ ad rv hn hlen ha him hv hc ht hf =>
    refine ⟨hn, fun _ => rfl, hc, fun m hm => ?_⟩
    rename_i id e len z cs
    have hmz : m * z <= len * z := Nat.mul_le_mul_right _ hm
    have hcr : CRs M cs ((List.range cs.length).map rv) := ⟨⟨by simp, fun i p q => by simpa using hv i p⟩, hc⟩
    have hcells : ∀ j v, (((List.range cs.length).map rv).take (m * z))[j]? = some v -> w.cell? (ad.add j) = some v := by
     intro j v hj
     rw [List.getElem?_take] at hj
     split at hj
     ·rename_i hjm
      obtain ⟨h1, h2⟩ := List.getElem?_eq_some_iff.1 hj
      simp at h1 h2
      have hm0 : cap ≠ 0 := by
       intro e
       have : len = 0 := by omega
       subst this
       simp at hn; omega
      obtain ⟨hsp, _⟩ := ha.resolve_left hm0
      obtain ⟨ab, ao, asp⟩ := ad
      simp only at hsp; subst hsp
      rw [add_none, <- h2]
      exact a.im _ _ _ (him j h1)
     ·simp at hj
    have hl : (((List.range cs.length).map rv).take (m * z)).length = m * z := by simp; omega
    exact ⟨_, hcr.take _, hl, run_firstCells_some w z m ad len cap _ hl hcells, run_firstCells_some w.drew z m ad len cap _ hl (by simpa using hcells)⟩
 ·split at hs
  case isFalse => simp at hs
  rename_i hz
  subst hz
  split at hs
  case h_2 => simp at hs
  rename_i cs hg
  split at hs
  case isFalse => simp at hs
  rename_i hle
  simp at hs; obtain ⟨rfl, rfl⟩ := hs
  rename_i id off len z _
  obtain ⟨b', rc, l1, l2, l3, l4, l5⟩ := a.row hg
  cases hx with
  | @hslice _ _ _ _ cap b ad hl had hlen =>
    rw [hl] at l1; simp at l1; subst l1
    have hl2 : ((cs.drop off).take (len * z)).length = len * z := by simp; omega
    refine ⟨hl2, fun _ => rfl, ((l4.drop off).take _).2, fun m hm => ?_⟩
    have hmz : m * z <= len * z := Nat.mul_le_mul_right _ hm
    have hcells : ∀ j v, ((((rc.toList.take cs.length).drop off).take (len * z)).take (m * z))[j]? = some v -> w.cell? (ad.add j) = some v := by
     intro j v hj
     rw [List.getElem?_take] at hj
     split at hj
     ·rename_i hjm
      obtain ⟨hk1, hk2⟩ := getElem?_drop_take _ _ _ _ _ hj
      have hm0 : cap ≠ 0 := by
       intro e
       have : len = 0 := by omega
       subst this
       simp at hk1
      obtain ⟨rfl, _⟩ := had.resolve_left hm0
      rw [add_none]
      obtain ⟨q1, q2⟩ := List.getElem?_eq_some_iff.1 hk2
      have := l5 (off + j) q1
      rw [q2] at this
      simpa using this
     ·simp at hj
    have hlr : ((((rc.toList.take cs.length).drop off).take (len * z)).take (m * z)).length = m * z := by simp; omega
    exact ⟨_, ((l4.drop off).take _).take _, hlr, run_firstCells_some w z m ad len cap _ hlr hcells, run_firstCells_some w.drew z m ad len cap _ hlr (by simpa using hcells)⟩
 ·split at hs
  case isFalse => simp at hs
  rename_i hz
  subst hz
  simp at hs; obtain ⟨rfl, rfl⟩ := hs
  cases hx with
  | str s =>
    refine ⟨by simp, fun _ => by simp [Builtin.lenOf], fun i hi => by simp [isCell], fun m hm => ?_⟩
    simp only [Array.length_toList] at hm
    have hcr : CRs M (s.data.toList.map fun b => IV.int .u8 b.toNat) (s.data.toList.map fun b => Value.int .u8 b.toNat) :=
     ⟨⟨by simp, fun i p q => by simpa using VR.int _ _⟩, fun i p => by simp [isCell]⟩
    have hrun : ∀ w' : World, (Builtin.firstCells 1 m (.string s)).run P w' = .ok ((s.data.toList.map fun b => Value.int .u8 b.toNat).take (m * 1)).toArray w' := by
     intro w'
     simp only [Builtin.firstCells, Sem.run_pure]
     congr 1
     apply Array.ext'
     simp [ByteArray.data_extract, List.extract_eq_take_drop]
    exact ⟨_, hcr.take _, by have e : s.size = s.data.size := rfl; simp; omega, hrun w, hrun w.drew⟩
 ·simp at hs
theorem src_Src {P : Program} (a : Inv M h w) {sz n : Nat} {x : IV} {xs : List IV} {r : Value} {tx : TypeId} {du : TypeDesc} (hu : P.underlying tx = some du) (hk : srcKind du = true) (hx : VR M x r) (hs : srcCells h sz x = some (n, xs)) :
  ∃ news : List Value, CRs M xs news /\ Src P sz tx r n news w := by
 obtain ⟨h1, h2, h3, h4⟩ := src_ok (P := P) a hx hs
 obtain ⟨news, n1, n2, n3, n4⟩ := h4 n (Nat.le_refl _)
 rw [List.take_of_length_le (by omega)] at n1
 refine ⟨news, n1, ⟨?_, h2, n3, n4, n2, n1.one⟩⟩
 unfold srcKind at hk
 split at hk
 ·exact .inl ⟨_, hu⟩
 ·exact .inr hu
 ·simp at hk
end
end Go.Pv
