import Derived.Test.YtmfnadojephcpaaPvRel
namespace Go.Pv
section
variable {P : Program} {M : Meta}
def At (w : World) (b base : Nat) (rc : List Value) : Prop := ∀ (i : Nat) (h : i < rc.length), w.cell? ⟨b, base + i, none⟩ = some rc[i]
theorem add_none (b off n : Nat) : (⟨b, off, none⟩ : Addr).add n = ⟨b, off + n, none⟩ := by
 unfold Addr.add; split <;> simp_all
theorem shapeOf_some {t : TypeId} {g : Bool} {n : Nat} (h : shapeOf P t = some (g, n)) :
  ∃ d i, P.underlying t = some d /\ P.info? t = some i /\ isAggD d = g /\ i.size = n := by
 unfold shapeOf at h
 split at h
 ·rename_i d i h1 h2
  simp at h
  exact ⟨d, i, h1, h2, h.1, h.2⟩
 ·simp at h
theorem run_isAgg {t : TypeId} {d : TypeDesc} (h : P.underlying t = some d) (w : World) : (isAgg t).run P w = .ok (isAggD d) w := by
 simp only [isAgg, Sem.run_bind, run_underlying h, Result.andThen_ok]
 cases d <;> rfl
theorem run_sizeOf {t : TypeId} {i : TypeInfo} (h : P.info? t = some i) (w : World) : (sizeOf t).run P w = .ok i.size w := by
 simp [sizeOf, typeInfo, h]
theorem getElem?_drop_take {α : Type} (l : List α) (a n j : Nat) (x : α) (h : ((l.drop a).take n)[j]? = some x) : j < n /\ l[a + j]? = some x := by
 rw [List.getElem?_take] at h
 split at h
 ·rename_i hj
  exact ⟨hj, by simpa [List.getElem?_drop] using h⟩
 ·simp at h
theorem load_ok {t : TypeId} {cs : List IV} {rc : List Value} {w : World} {b base off : Nat} {v : IV} (hc : CRs M cs rc) (hm : At w b base rc)
  (h : rdVar P t cs off = some v) : ∃ r, (loadVar t ⟨b, base + off, none⟩).run P w = .ok r w /\ VR M v r := by
 unfold rdVar at h
 split at h
 ·rename_i n hs
  obtain ⟨d, i, h1, h2, h3, h4⟩ := shapeOf_some hs
  split at h
  ·rename_i hle
   simp at h; subst h
   refine ⟨.agg ((rc.drop off).take n).toArray, ?_, vr_agg_mk ((hc.drop off).take n)⟩
   have hl : ((rc.drop off).take n).length = n := by simp; have := hc.len; omega
   have := run_loadCells_list (P := P) w ⟨b, base + off, none⟩ ((rc.drop off).take n) (by
    intro j x hx
    obtain ⟨hj, hx'⟩ := getElem?_drop_take _ _ _ _ _ hx
    obtain ⟨hk, rfl⟩ := List.getElem?_eq_some_iff.1 hx'
    rw [add_none, Nat.add_assoc]
    exact hm _ hk)
   rw [hl] at this
   simp only [loadVar, Sem.run_bind, run_isAgg h1, Result.andThen_ok, h3, if_true, run_sizeOf h2, h4, this, Sem.run_pure]
  ·simp at h
 ·rename_i n hs
  obtain ⟨d, i, h1, h2, h3, h4⟩ := shapeOf_some hs
  obtain ⟨r, hr, hv⟩ := hc.get h
  obtain ⟨hk, rfl⟩ := List.getElem?_eq_some_iff.1 hr
  refine ⟨_, ?_, hv⟩
  have := hm off hk
  simp [loadVar, run_isAgg h1, h3, run_load, this]
 ·simp at h
theorem part_ok {t : TypeId} {cs : List IV} {rc : List Value} {w : World} {off : Nat} {v : IV} (hc : CRs M cs rc)
  (h : rdVar P t cs off = some v) : ∃ r, (part t rc.toArray off).run P w = .ok r w /\ VR M v r := by
 unfold rdVar at h
 split at h
 ·rename_i n hs
  obtain ⟨d, i, h1, h2, h3, h4⟩ := shapeOf_some hs
  split at h
  ·rename_i hle
   simp at h; subst h
   refine ⟨.agg ((rc.drop off).take n).toArray, ?_, vr_agg_mk ((hc.drop off).take n)⟩
   simp only [part, Sem.run_bind, run_isAgg h1, Result.andThen_ok, h3, if_true, run_sizeOf h2, h4, Sem.run_pure]
   congr 2
   apply Array.ext'
   simp [List.extract_eq_take_drop]
  ·simp at h
 ·rename_i n hs
  obtain ⟨d, i, h1, h2, h3, h4⟩ := shapeOf_some hs
  obtain ⟨r, hr, hv⟩ := hc.get h
  refine ⟨r, ?_, hv⟩
  simp [part, run_isAgg h1, h3, hr]
 ·simp at h
theorem take_set_succ {α : Type} (l : List α) (i : Nat) (v : α) (h : i < l.length) : (l.set i v).take (i + 1) = l.take i ++ [v] := by
 induction l generalizing i with
 | nil => simp at h
 | cons x l ih => cases i with
   | zero => simp
   | succ i => simp only [List.set_cons_succ, List.take_succ_cons, List.cons_append]; rw [ih i (by simpa using h)]
def splV (rc : List Value) (off : Nat) (c : List Value) : List Value := rc.take off ++ c ++ rc.drop (off + c.length)
theorem splV_length (rc : List Value) (off : Nat) (c : List Value) (h : off + c.length <= rc.length) : (splV rc off c).length = rc.length := by
 simp [splV]; omega
theorem CRs.spl {cs : List IV} {rc : List Value} (h : CRs M cs rc) {c : List IV} {r : List Value} (hc : CRs M c r) (off : Nat) : CRs M (Pv.spl cs off c) (splV rc off r) := by
 unfold Pv.spl splV
 rw [hc.len]
 exact ((h.take off).append hc).append (h.drop _)
theorem setCells_heap (b : Nat) : ∀ (vs : List Value) (o : Nat) (w : World) (rc : Array Value) (el : TypeId) (fz : Nat × Nat), w.heap[b]? = some (.cells rc el fz) -> o + vs.length <= rc.size ->
  ∃ rc', (w.setCells b o vs).heap[b]? = some (.cells rc' el fz) /\ rc'.toList = splV rc.toList o vs
 | [], o, w, rc, el, fz, h, _ => ⟨rc, h, by simp [splV]⟩
 | v :: r, o, w, rc, el, fz, h, hl => by
   simp only [List.length_cons] at hl
   have h1 : (w.setCell ⟨b, o, none⟩ v).heap[b]? = some (.cells (rc.setIfInBounds o v) el fz) := by
    simp [World.setCell, Array.getElem?_modify, h]
   obtain ⟨rc', h2, h3⟩ := setCells_heap b r (o + 1) _ _ _ _ h1 (by simp; omega)
   refine ⟨rc', h2, ?_⟩
   rw [h3]
   simp only [splV, Array.toList_setIfInBounds, List.length_cons]
   have e1 : (rc.toList.set o v).take (o + 1) = rc.toList.take o ++ [v] := take_set_succ _ _ _ (by simp; omega)
   have e2 : (rc.toList.set o v).drop (o + 1 + r.length) = rc.toList.drop (o + (r.length + 1)) := by
    rw [List.drop_set, if_pos (by omega), show o + 1 + r.length = o + (r.length + 1) by omega]
   rw [e1, e2]
   simp
theorem setCells_other (b : Nat) : ∀ (vs : List Value) (o : Nat) (w : World) (k : Nat), k ≠ b -> (w.setCells b o vs).heap[k]? = w.heap[k]?
 | [], _, _, _, _ => rfl
 | v :: r, o, w, k, h => by
   rw [World.setCells, setCells_other b r (o + 1) _ k h]
   simp only [World.setCell, Array.getElem?_modify]
   rw [if_neg (by simpa using fun e => h e.symm)]
theorem setCells_size (b : Nat) : ∀ (vs : List Value) (o : Nat) (w : World), (w.setCells b o vs).heap.size = w.heap.size
 | [], _, _ => rfl
 | v :: r, o, w => by rw [World.setCells, setCells_size b r (o + 1)]; simp
theorem setCells_rest (b : Nat) : ∀ (vs : List Value) (o : Nat) (w : World), (w.setCells b o vs).os = w.os /\ (w.setCells b o vs).tape = w.tape /\ (w.setCells b o vs).output = w.output
 | [], _, _ => ⟨rfl, rfl, rfl⟩
 | v :: r, o, w => by
   rw [World.setCells]
   exact setCells_rest b r (o + 1) _
theorem store_ok {t : TypeId} {cs cs' : List IV} {rc : Array Value} {w : World} {b off : Nat} {v : IV} {rv : Value} {el : TypeId} {fz : Nat × Nat} (hc : CRs M cs (rc.toList.take cs.length))
  (hb : w.heap[b]? = some (.cells rc el fz)) (hf : ∀ i, i < rc.size -> w.frozen? ⟨b, i, none⟩ = false) (hv : VR M v rv)
  (h : wrVar P t cs off v = some cs') :
  ∃ rc', (storeVar t ⟨b, off, none⟩ rv).run P w = .ok () (w.setCells b off rv.cells.toList) /\ (w.setCells b off rv.cells.toList).heap[b]? = some (.cells rc' el fz) /\
   rc'.size = rc.size /\ cs'.length = cs.length /\ CRs M cs' (rc'.toList.take cs'.length) /\ rc'.toList.drop cs.length = rc.toList.drop cs.length := by
 unfold wrVar at h
 simp only at h
 split at h
 case isFalse => simp at h
 rename_i htup
 split at h
 case h_2 => simp at h
 rename_i n hs
 split at h
 case isFalse => simp at h
 rename_i hcond
 obtain ⟨hn, hle⟩ := hcond
 simp at h
 have hcv := vr_cells hv htup
 have hsz : ∃ i, P.info? t = some i /\ i.size = n := by
  unfold szOf at hs
  cases hi : P.info? t with
  | none => simp [hi] at hs
  | some i => exact ⟨i, rfl, by simpa [hi] using hs⟩
 obtain ⟨i, hi, hin⟩ := hsz
 have hlr : cs.length <= rc.size := by have := hc.len; simp at this; omega
 have hrn : rv.cells.toList.length = n := by rw [<- hcv.len, hn]
 obtain ⟨rc', h1, h2⟩ := setCells_heap b rv.cells.toList off w rc el fz hb (by rw [hrn]; omega)
 have hcs' : cs' = Pv.spl cs off (cellsOf v) := by rw [<- h]; simp [Pv.spl, hn]
 have hlen' : cs'.length = cs.length := by rw [hcs']; simp [Pv.spl, hn]; omega
 have hsz' : rc'.size = rc.size := by
  have := congrArg List.length h2
  rw [splV_length _ _ _ (by rw [hrn]; simp; omega)] at this
  simpa using this
 refine ⟨rc', ?_, h1, hsz', hlen', ?_, ?_⟩
 ·have hst := run_storeCells_cells (P := P) b off rv.cells.toList 0 w (by
    intro j hj
    rw [hrn] at hj
    simp only [World.cell?, hb, Nat.add_zero]
    simp [show off + j < rc.size from by omega])
   (by
    intro j hj
    rw [hrn] at hj
    simpa using hf (off + j) (by omega)) hcv.one
  have hne : rv.cells.size = i.size := by rw [hin, <- hrn]; simp
  simp only [storeVar, Sem.run_bind, run_sizeOf hi, Result.andThen_ok]
  rw [if_neg (by simpa using hne)]
  simpa using hst
 ·rw [hlen', hcs', h2]
  have e : (splV rc.toList off rv.cells.toList).take cs.length = splV (rc.toList.take cs.length) off rv.cells.toList := by
   simp only [splV, hrn]
   rw [List.take_append, List.take_append]
   simp only [List.length_take, List.length_append, hrn, List.take_take]
   rw [show min off rc.toList.length = off from by simp; omega]
   rw [show min cs.length off = off from by omega, show min off cs.length = off from by omega]
   rw [List.take_of_length_le (l := rv.cells.toList) (by rw [hrn]; omega)]
   congr 1
   rw [List.drop_take]
  rw [e]
  exact hc.spl hcv off
 ·rw [h2]
  simp only [splV, hrn]
  rw [List.drop_append, List.drop_append]
  simp only [List.length_take, List.length_append, hrn]
  rw [show min off rc.toList.length = off from by simp; omega]
  rw [List.drop_of_length_le (by simp; omega), List.drop_of_length_le (by rw [hrn]; omega)]
  rw [List.drop_drop, show off + n + (cs.length - (off + n)) = cs.length from by omega]
  rfl
def PR (M : Meta) : List (Nat × IV) -> List (Nat × Value) -> Prop
 | [], [] => True
 | (i, x) :: r, (j, v) :: s => i = j /\ VR M x v /\ PR M r s
 | _, _ => False
theorem fill_step (off : Nat) : ∀ (l : List Value) (k : Nat) (rc : Array Value), off + k + l.length <= rc.size ->
  ((l.zipIdx k).foldl (fun cs (c, j) => cs.setIfInBounds (off + j) c) rc).toList = splV rc.toList (off + k) l
 | [], k, rc, _ => by simp [splV]
 | c :: l, k, rc, h => by
   simp only [List.length_cons] at h
   simp only [List.zipIdx_cons, List.foldl_cons]
   rw [fill_step off l (k + 1) (rc.setIfInBounds (off + k) c) (by simp; omega)]
   simp only [splV, Array.toList_setIfInBounds, List.length_cons]
   have e1 : (rc.toList.set (off + k) c).take (off + (k + 1)) = rc.toList.take (off + k) ++ [c] := take_set_succ _ _ _ (by simp; omega)
   have e2 : (rc.toList.set (off + k) c).drop (off + (k + 1) + l.length) = rc.toList.drop (off + k + (l.length + 1)) := by
    rw [List.drop_set, if_pos (by omega), show off + (k + 1) + l.length = off + k + (l.length + 1) by omega]
   rw [e1, e2]
   simp
theorem zipIdx_foldl {β : Type} (a : Array Value) (f : β -> Value × Nat -> β) (z : β) : a.zipIdx.foldl f z = (a.toList.zipIdx).foldl f z := by
 rw [<- Array.foldl_toList, Array.toList_zipIdx]
theorem ifill_ok {place : Nat -> Option (Nat × Nat)} : ∀ {ps : List (Nat × IV)} {rs : List (Nat × Value)} {cells : List IV} {rc : Array Value} {out : List IV}, PR M ps rs -> CRs M cells rc.toList ->
  ifill place cells ps = some out -> ∃ ro : Array Value, Instr.fill place rc rs = some ro /\ CRs M out ro.toList
 | [], [], cells, rc, out, _, hc, h => by simp [ifill] at h; subst h; exact ⟨rc, rfl, hc⟩
 | [], _ :: _, _, _, _, hp, _, _ => hp.elim
 | _ :: _, [], _, _, _, hp, _, _ => hp.elim
 | (i, x) :: r, (j, v) :: s, cells, rc, out, hp, hc, h => by
   obtain ⟨rfl, hv, hp⟩ := hp
   unfold ifill at h
   unfold Instr.fill
   cases hpl : place i with
   | none => simp [hpl] at h
   | some q =>
     obtain ⟨off, n⟩ := q
     simp only [hpl] at h ⊢
     split at h
     case isFalse => simp at h
     rename_i hcond
     obtain ⟨h1, h2, h3⟩ := hcond
     have hcv := vr_cells hv h3
     have hsz : v.cells.size = n := by have := hcv.len; simp at this; omega
     have hrs : rc.size = cells.length := by have := hc.len; simpa using this.symm
     rw [if_neg (by simp [hsz, hrs]; omega)]
     refine ifill_ok (ps := r) hp ?_ h
     rw [zipIdx_foldl]
     have := fill_step off v.cells.toList 0 rc (by simp [hsz, hrs]; omega)
     simp only [Nat.add_zero] at this
     rw [this]
     exact hc.spl hcv off
end
end Go.Pv
