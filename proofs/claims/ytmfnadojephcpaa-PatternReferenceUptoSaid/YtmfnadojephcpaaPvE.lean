import Derived.Test.YtmfnadojephcpaaPvApp
import Derived.Test.YtmfnadojephcpaaPvP
set_option linter.unusedSimpArgs false
namespace Go.Pv
section
variable {M : Meta} {h : Heap} {w : World}
theorem upd_ok {d : TypeDesc} {k v : IV} {rk rv : Value} (hk : VR M k rk) (hv : VR M v rv) : ∀ {es es' : List (IV × IV)} {ents : List MapEntry} (i : Nat), MRs M es ents -> updIV d k v es = some es' ->
  (∃ j e u, ents[j]? = some e /\ Instr.findNow d rk ents i = some (some (i + j, u)) /\ e.key = rk /\ (∀ n, Instr.sameBits n e.key rk = true) /\ MRs M es' (ents.modify j fun e => { e with key := rk, val := rv })) \/
  (Instr.findNow d rk ents i = some none /\ es' = es ++ [(k, v)])
 | [], es', ents, i, hm, h => by
   have : ents = [] := by have := hm.len; simpa using this.symm
   subst this
   simp [updIV] at h; subst h
   exact .inr ⟨rfl, rfl⟩
 | (x, y) :: es, es', ents, i, hm, h => by
   obtain ⟨e, q, rfl, k1, v1, h2⟩ := hm.uncons
   unfold updIV at h
   split at h
   ·rename_i hs
    simp at h; subst h
    obtain ⟨s1, s2⟩ := sameNow_ok hs hk k1
    obtain ⟨_, s4, s5⟩ := s2 rfl
    refine .inl ⟨0, e, e.val, rfl, by simp [Instr.findNow, s1], s4.symm, s5, ?_⟩
    exact MRs.cons hk hv h2
   ·rename_i hs
    obtain ⟨s1, _⟩ := sameNow_ok hs hk k1
    obtain ⟨r, r1, r2⟩ := Option.map_eq_some_iff.1 h
    subst r2
    rcases upd_ok hk hv (i + 1) h2 r1 with ⟨j, e', u, p1, p2, p3, p4, p5⟩ | ⟨p1, rfl⟩
    ·refine .inl ⟨j + 1, e', u, by simpa using p1, ?_, p3, p4, MRs.cons k1 v1 p5⟩
     simp [Instr.findNow, s1, p2]; omega
    ·refine .inr ⟨?_, rfl⟩
     simp [Instr.findNow, s1, p1]
   ·simp at h
theorem upd_pos {d : TypeDesc} {k v : IV} {rk rv : Value} (hk : VR M k rk) (hv : VR M v rv) : ∀ {es es' : List (IV × IV)} {ents : List MapEntry} (i : Nat) {y : IV}, MRs M es ents -> findIV d k es = some (some y) -> updIV d k v es = some es' ->
  ∃ e u, ents[posIV d k es]? = some e /\ Instr.findNow d rk ents i = some (some (i + posIV d k es, u)) /\ VR M y u /\ u = e.val /\ e.key = rk /\ (∀ n, Instr.sameBits n e.key rk = true) /\ MRs M es' (ents.modify (posIV d k es) fun e => { e with key := rk, val := rv })
 | [], es', ents, i, y, hm, hf, h => by simp [findIV] at hf
 | (x, z) :: es, es', ents, i, y, hm, hf, h => by
   obtain ⟨e, q, rfl, k1, v1, h2⟩ := hm.uncons
   unfold updIV at h
   unfold findIV at hf
   unfold posIV
   split at h
   ·rename_i hs
    simp only [hs, Option.some.injEq] at hf h
    subst h; subst hf
    obtain ⟨s1, s2⟩ := sameNow_ok hs hk k1
    obtain ⟨_, s4, s5⟩ := s2 rfl
    simp only [hs]
    exact ⟨e, e.val, rfl, by simp [Instr.findNow, s1], v1, rfl, s4.symm, s5, MRs.cons hk hv h2⟩
   ·rename_i hs
    simp only [hs] at hf
    obtain ⟨s1, _⟩ := sameNow_ok hs hk k1
    obtain ⟨r, r1, r2⟩ := Option.map_eq_some_iff.1 h
    subst r2
    obtain ⟨e', u, p1, p2, p3, p4, p5, p6, p7⟩ := upd_pos hk hv (i + 1) h2 hf r1
    simp only [hs]
    refine ⟨e', u, by simpa using p1, ?_, p3, p4, p5, p6, MRs.cons k1 v1 p7⟩
    simp [Instr.findNow, s1, p2]; omega
   ·simp at h
theorem find_none {d : TypeDesc} {k : IV} {rk : Value} (hk : VR M k rk) {es : List (IV × IV)} {ents : List MapEntry} (hm : MRs M es ents) (hf : findIV d k es = some none) : Instr.findNow d rk ents 0 = some none := findIV_ok hk 0 hm hf
theorem put_ok {v : IV} {rv : Value} (hv : VR M v rv) : ∀ {es : List (IV × IV)} {ents : List MapEntry} (n : Nat), MRs M es ents -> MRs M (putIV v n es) (ents.modify n fun e => { e with val := rv })
 | [], ents, n, hm => by
   have : ents = [] := by have := hm.len; simpa using this.symm
   subst this
   simpa [putIV] using hm
 | (x, z) :: es, ents, 0, hm => by
   obtain ⟨e, q, rfl, k1, v1, h2⟩ := hm.uncons
   exact MRs.cons k1 hv h2
 | (x, z) :: es, ents, n + 1, hm => by
   obtain ⟨e, q, rfl, k1, v1, h2⟩ := hm.uncons
   exact MRs.cons k1 v1 (put_ok hv n h2)
def EEnd (E : Env) (M : Meta) (h : Heap) (w : World) (o : Oper) (ρ : Operand -> Value) (v : Option TV) (h' : Heap) : Prop :=
 ∃ w' M', Inv M' h' w' /\ Pres w.heap.size M h w M' h' w' /\
  ((∃ x r, v = some (.v x) /\ (execOp ρ o).run E.P w = .ok (.value r) w' /\ VR M' x r) \/ (v = none /\ (execOp ρ o).run E.P w = .ok .skip w'))
section
variable {E : Env} {f : FuncId} {o : Oper} {ev : Operand -> Option TV} {ρ : Operand -> Value} {pb : Nat -> Nat}
theorem new_marked (w : World) (c : Array Value) (el : TypeId) : ∃ fz, NewBlk w (((w.drew.alloc (.cells c el))).freeze ⟨w.heap.size, c.size, none⟩ 1) (.cells c el fz) /\ c.size <= fz.1 := by
 refine ⟨(c.size, c.size + 1), ⟨?_, ?_, ?_, rfl, rfl, rfl⟩, Nat.le_refl _⟩
 ·show ((w.heap.push (.cells c el)).modify w.heap.size _)[w.heap.size]? = _
  rw [Array.getElem?_modify, if_pos rfl]
  simp
 ·intro b hb
  show ((w.heap.push (.cells c el)).modify w.heap.size _)[b]? = _
  rw [Array.getElem?_modify, if_neg (by omega), Array.getElem?_push, if_neg (by omega)]
 ·show ((w.heap.push (.cells c el)).modify w.heap.size _).size = _
  simp
theorem eSem_ok (a : Inv M h w) (hev : ∀ x tv, ev x = some tv -> TR M pb tv (ρ x)) {v : Option TV} {h' : Heap} (he : eSem E f o ev h = some (v, h')) : EEnd E M h w o ρ v h' := by
 unfold eSem at he
 cases hop : o.op with
 | alloc t =>
   simp only [hop] at he
   split at he
   case h_2 => simp at he
   split at he
   ·simp at he
   obtain ⟨z, h1, h2⟩ := Option.map_eq_some_iff.1 he
   simp at h2; obtain ⟨rfl, rfl⟩ := h2
   obtain ⟨i, r, h3, h4, h5, h6⟩ := zeroIV_info (M := M) h1
   have hc := vr_cells h5 h6
   have hl : (cellsOf z).length = r.cells.size := by simpa using hc.len
   obtain ⟨M', q1, q2, q3, q4⟩ := new_cells a (fz := (0, 0)) (cs := cellsOf z) (NewBlk.alloc w (.cells r.cells t)) (.inl (Nat.le_refl _)) (by omega) (by rw [List.take_of_length_le (by simp; omega)]; exact hc)
   refine ⟨_, M', q1, q2, .inl ⟨_, _, rfl, ?_, .ptr q3⟩⟩
   simp only [execOp, hop]
   refine exec_v _ _ ?_
   simp only [Instr.alloc, Sem.run_bind, run_zeroValue w h3 h4, Result.andThen_ok, newVar, Go.newRow, run_newObj, Sem.run_pure]
   rfl
 | box t x =>
   simp only [hop] at he
   split at he
   case h_2 => simp at he
   rename_i d v' hd hv
   split at he
   ·simp at he
   split at he
   case isFalse => simp at he
   rename_i hnt
   simp at he; obtain ⟨rfl, rfl⟩ := he
   have hc := vr_cells (ev_plain hev hv) hnt
   have hl : (cellsOf v').length = (ρ x).cells.size := by simpa using hc.len
   obtain ⟨M', q1, q2, q3, q4⟩ := new_cells a (fz := (0, 0)) (cs := cellsOf v') (NewBlk.alloc w (.cells (ρ x).cells t)) (.inl (Nat.le_refl _)) (by omega) (by rw [List.take_of_length_le (by simp; omega)]; exact hc)
   refine ⟨_, M', q1, q2, .inl ⟨_, _, rfl, ?_, .ptr q3⟩⟩
   simp only [execOp, hop]
   refine exec_v _ _ ?_
   simp only [Instr.box, newVar, Go.newRow, Sem.run_bind, run_newObj, Result.andThen_ok, Sem.run_pure]
   rfl
 | buildSlice t n parts =>
   simp only [hop] at he
   split at he
   case h_2 => simp at he
   rename_i e d hu hd
   split at he
   ·simp at he
   split at he
   case h_2 => simp at he
   rename_i sz z ps hsz hz hp
   split at he
   case isFalse => simp at he
   rename_i hcond
   obtain ⟨cs, h1, h2⟩ := Option.map_eq_some_iff.1 he
   simp at h2; obtain ⟨rfl, rfl⟩ := h2
   have hp' : PR M ps (parts.map fun (i, x) => (i, ρ x)).toList := by
    have := ev_parts (M := M) hev hp
    simpa using this
   obtain ⟨ro, r1, r2, r3⟩ := buildSlice_run (P := E.P) (M := M) w hu hsz hz hcond.1 hcond.2 hp' h1
   have hros : ro.size = n * (sz + 1) := by have := r2.len; simp at this; omega
   obtain ⟨M', q1, q2, q3⟩ := newRow_ok a (E.A f d) (fz := (0, 0)) (NewBlk.alloc w (.cells ro e)) (.inl (Nat.le_refl _)) r3 (Nat.le_refl n) (by omega) (by rw [List.take_of_length_le (by simp; omega)]; exact r2)
   exact ⟨_, M', q1, q2, .inl ⟨_, _, rfl, by simp only [execOp, hop]; exact exec_v _ _ r1, q3⟩⟩
 | makeSlice t lo co =>
   simp only [hop] at he
   split at he
   case h_2 => simp at he
   rename_i e d l c hu hd hl hc
   split at he
   case h_2 => simp at he
   rename_i sz bytes z hsz hby hz
   split at he
   case isFalse => simp at he
   rename_i hcond
   obtain ⟨b1, b2, b3, b4, hzl⟩ := hcond
   simp only [Option.some.injEq, Prod.mk.injEq] at he
   obtain ⟨rfl, rfl⟩ := he
   obtain ⟨kl, hkl⟩ := asI_ok hl
   obtain ⟨kc, hkc⟩ := asI_ok hc
   have vl : VR M (.int kl l) (ρ lo) := hev _ _ hkl
   have vc : VR M (.int kc c) (ρ co) := hev _ _ hkc
   generalize hρl : ρ lo = rl at vl
   generalize hρc : ρ co = rc at vc
   cases vl
   cases vc
   obtain ⟨i, hi1, hi2⟩ := szOf_info hsz
   obtain ⟨i', hi3, hi4⟩ := bytesOf_info hby
   rw [hi1] at hi3; simp at hi3; subst hi3
   obtain ⟨rz, hz1, hz2⟩ := cells_zero (M := M) hz hi1
   have hrep := repl_ok hz2 (by omega) l.toNat
   have hrepc := repl_ok hz2 (by omega) c.toNat
   rw [hzl] at hrep hrepc
   have hlc : l.toNat <= c.toNat := by omega
   have hmul : l.toNat * (sz + 1) <= c.toNat * (sz + 1) := Nat.mul_le_mul_right _ hlc
   have hrl : (repl l.toNat (cellsOf z)).length = l.toNat * (sz + 1) := by rw [repl_length, hzl]
   obtain ⟨M', q1, q2, q3⟩ := newRow_ok a (1 - E.A f d) (rc := (Array.range (c.toNat * (sz + 1))).map (rz.cells[· % rz.cells.size]!)) (fz := (0, 0)) (NewBlk.alloc w (.cells _ e)) (.inl (Nat.le_refl _)) hrl hlc (by simp) (by
    rw [hrl]
    have : ((Array.range (c.toNat * (sz + 1))).map (rz.cells[· % rz.cells.size]!)).toList.take (l.toNat * (sz + 1)) = ((Array.range (l.toNat * (sz + 1))).map (rz.cells[· % rz.cells.size]!)).toList := by
     apply List.ext_getElem?
     intro j
     by_cases hj : j < l.toNat * (sz + 1)
     ·simp [hj, show j < c.toNat * (sz + 1) by omega]
     ·have hmn : min l.toNat c.toNat = l.toNat := Nat.min_eq_left hlc
      simp [hj, hmn]
    rw [this]
    exact hrep)
   refine ⟨_, M', q1, q2, .inl ⟨_, _, rfl, ?_, q3⟩⟩
   simp only [execOp, hop, hρl, hρc]
   refine exec_v _ _ ?_
   have wl : IntKind.i64.wrap l = l := IntWalk.i64_in _ (by omega)
   have wc : IntKind.i64.wrap c = c := IntWalk.i64_in _ (by omega)
   have t1 : ∀ n : Int, 0 <= n -> n <= c -> (decide (n < 0) || decide ((bytes : Int) * n > 2 ^ 48)) = false := by
    intro n h0 hn
    have : (bytes : Int) * n <= bytes * c := Int.mul_le_mul_of_nonneg_left hn (by omega)
    have e1 : decide (n < 0) = false := by simp; omega
    have e2 : decide ((bytes : Int) * n > 2 ^ 48) = false := by simp; omega
    rw [e1, e2]; rfl
   have hty : (typeInfo e).run E.P w = .ok i w := by simp [typeInfo, hi1]
   simp only [Instr.makeSlice, Sem.run_bind, run_underlying hu, Result.andThen_ok, asInt, asIntOf, Sem.run_pure, hty, wl, wc, hi4]
   have e3 : (decide (c < 0) || decide ((bytes : Int) * c > 2 ^ 48) || decide (l < 0) || decide (l > c)) = false := by
    rw [t1 c (by omega) (by omega)]
    have e1 : decide (l < 0) = false := by simp; omega
    have e2 : decide (l > c) = false := by simp; omega
    rw [e1, e2]; rfl
   have hi2' : i.size = sz + 1 := hi2
   simp only [e3, Bool.false_eq_true, if_false, Sem.run_pure, Result.andThen_ok, run_askRoom, run_sizeOf hi1, hi2', Sem.run_bind]
   by_cases hn0 : c.toNat * (sz + 1) = 0
   ·rw [if_pos hn0]
    simp only [Sem.run_bind, Sem.run_pure, Result.andThen_ok, Go.newRow, run_newObj, hn0]
    rw [map_range0 _ (fun x => rz.cells[x % rz.cells.size]!)]
    rfl
   ·rw [if_neg hn0]
    simp only [Sem.run_bind, Sem.run_pure, Result.andThen_ok, run_zeroValue w hi1 hz1, Go.newRow, run_newObj]
    rfl
 | makeMap t r =>
   simp only [hop] at he
   split at he
   case h_2 => simp at he
   simp at he; obtain ⟨rfl, rfl⟩ := he
   obtain ⟨M', q1, q2, q3⟩ := new_map a (NewBlk.alloc w (.map #[] 0))
   refine ⟨_, M', q1, q2, .inl ⟨_, _, rfl, ?_, .map q3⟩⟩
   simp only [execOp, hop]
   refine exec_v _ _ ?_
   simp only [Instr.makeMap, Option.map_none, Sem.run_bind, Sem.run_pure, Result.andThen_ok, run_newObj]
   rfl
 | convert s d x =>
   simp only [hop] at he
   split at he
   case h_2 => simp at he
   rename_i ds e dst b hs hd hdst hx
   split at he
   case h_2 => simp at he
   rename_i hu8
   simp at he; obtain ⟨rfl, rfl⟩ := he
   have hav := ev_plain hev hx
   generalize hρ : ρ x = rx at hav
   cases hav with
   | str sb =>
     let cap := grownCap w sb.size 0 e
     let c : Array Value := sb.data.map (fun b => Value.int .u8 b.toNat) ++ Array.replicate (cap - sb.size) (.int .u8 0)
     obtain ⟨fz, nb, hfz⟩ := new_marked w c e
     have hge : sb.size <= cap := grownCap_ge w sb.size 0 e
     have hcs : c.size = cap := by
      have e1 : sb.size = sb.data.size := rfl
      simp [c]; omega
     have hcr : CRs M (sb.data.toList.map fun b => IV.int .u8 b.toNat) (sb.data.toList.map fun b => Value.int .u8 b.toNat) :=
      ⟨⟨by simp, fun i p q => by simpa using VR.int _ _⟩, fun i p => by simp [isCell]⟩
     obtain ⟨M', q1, q2, q3⟩ := newRow_ok a (E.A f dst) (len := sb.data.toList.length) (cs := sb.data.toList.map fun b => IV.int .u8 b.toNat) (sz := 1) (cap := cap) nb (.inr hfz) (by simp) hge (by rw [hcs]; omega) (by
      have : c.toList.take (sb.data.toList.map fun b => IV.int .u8 (b.toNat : Int)).length = sb.data.toList.map fun b => Value.int .u8 b.toNat := by
       simp only [c, Array.toList_append, Array.toList_map, List.length_map]
       rw [List.take_append_of_le_length (by simp), List.take_of_length_le (by simp)]
      rw [this]
      exact hcr)
     refine ⟨_, M', q1, q2, .inl ⟨_, _, rfl, ?_, q3⟩⟩
     simp only [execOp, hop, hρ]
     refine exec_v _ _ ?_
     have hconv : (convert s d (.string sb)).run E.P w = (Conv.stringToBytes e sb).run E.P w := by
      cases ds <;> simp [convert, run_underlying hs, run_underlying hd, run_underlying hu8]
     rw [hconv]
     simp only [Conv.stringToBytes, Sem.run_bind, run_choose, Question.forced, Bool.false_eq_true, if_false, Result.andThen_ok, Go.newRow, run_newObj, Sem.run_pure, markStringish, run_shape]
     have hshape : ({ w with drawn := w.drawn + 1, heap := w.heap.push (.cells c e) } : World).shape? w.heap.size = some (e, c.size) := by
      simp [World.shape?]
     have hshape' : World.shape? { { w with drawn := w.drawn + 1 } with heap := ({ w with drawn := w.drawn + 1 } : World).heap.push (.cells c e) } ({ w with drawn := w.drawn + 1 } : World).heap.size = some (e, c.size) := hshape
     have := hshape'
     simp only [c, cap, grownCap] at this
     rw [this]
     simp only [Sem.run_pure, Result.andThen_ok, run_freeze, Sem.run_bind]
     rfl
 | store t ad x =>
   simp only [hop] at he
   split at he
   case h_2 => simp at he
   rename_i id off v' ha hx
   split at he
   case h_2 => simp at he
   rename_i cs hg
   obtain ⟨cs', h1, h2⟩ := Option.map_eq_some_iff.1 he
   simp at h2; obtain ⟨rfl, rfl⟩ := h2
   have hav : VR M (.ptr id off) (ρ ad) := hev _ _ ha
   generalize hρ : ρ ad = ra at hav
   obtain ⟨b', rc, l1, l2, l3, l4, l5⟩ := a.row hg
   cases hav with
   | @ptr _ _ b hl =>
     rw [hl] at l1; simp at l1; subst l1
     obtain ⟨el, fz, hbk⟩ := l2.at_
     obtain ⟨rc', s1, s2, s3, s4, s5, s6⟩ := store_ok (P := E.P) l4 hbk l2.free (ev_plain hev hx) h1
     have hfrz : ∀ j, (w.setCells b off (ρ x).cells.toList).frozen? ⟨b, j, none⟩ = w.frozen? ⟨b, j, none⟩ := fun j => World.frozen?_setCells b _ _ _ _
     obtain ⟨q1, q2⟩ := set_cells a (cs' := cs') hg hl (fun k hk => setCells_other b _ _ _ k hk) (setCells_size b _ _ _) (setCells_rest b _ _ _)
      ⟨⟨el, fz, s2⟩, fun j hj => by rw [hfrz]; exact l2.free j (by omega), by rw [s3]; exact l2.bsz⟩ (by omega) s5
     refine ⟨_, M, q1, q2, .inr ⟨rfl, ?_⟩⟩
     simp only [execOp, hop, hρ]
     refine exec_u _ _ ?_
     simp only [Instr.storeAt, Instr.sureAddr, Sem.run_bind, Sem.run_pure, Result.andThen_ok]
     exact s1
 | mapUpdate t m k x =>
   simp only [hop] at he
   split at he
   case h_2 => simp at he
   rename_i kt et id key v' hu hm hk hx
   split at he
   case h_2 => simp at he
   rename_i d es hd hg
   split at he
   case isFalse => simp at he
   rename_i hkf
   obtain ⟨es', h1, h2⟩ := Option.map_eq_some_iff.1 he
   simp at h2; obtain ⟨rfl, rfl⟩ := h2
   have hmv := ev_plain hev hm
   have hkv := ev_plain hev hk
   have hxv := ev_plain hev hx
   generalize hρ : ρ m = rm at hmv
   cases hmv with
   | @map _ b hl =>
     obtain ⟨b', ents, clock, g1, g2, g3, g4⟩ := a.maps id es hg
     rw [hl] at g1; simp at g1; subst g1
     have hck := run_checkKey (M := M) (emp := false) hd hkf hkv w 9999
     have hgo : (getObj b).run E.P w = .ok (.map ents clock) w := by simp [getObj, Sem.run, g2]
     have hset : ∀ ob, (setObj b ob).run E.P w = .ok () { w with heap := w.heap.setIfInBounds b ob } := by
      intro ob; simp [setObj, Sem.run, g2]
     have hblt : b < w.heap.size := lt_of_some g2
     have fin : ∀ ents' clock', MRs M es' ents'.toList /\ Brn ents' clock' -> (Instr.mapUpdate t (.map (some b)) (ρ k) (ρ x)).run E.P w = .ok () { w with heap := w.heap.setIfInBounds b (.map ents' clock') } -> EEnd E M h w o ρ none (h.set id (.map es')) := by
      intro ents' clock' hmr hrun
      obtain ⟨q1, q2⟩ := set_map (w' := { w with heap := w.heap.setIfInBounds b (.map ents' clock') }) a (ents := ents') (clock := clock') (es' := es') hg hl (fun j hj => by simp [Array.getElem?_setIfInBounds, show ¬ (b = j) from fun e => hj e.symm]) (by simp) ⟨rfl, rfl, rfl⟩ (by simp [Array.getElem?_setIfInBounds, hblt]) hmr
      refine ⟨_, M, q1, q2, .inr ⟨rfl, ?_⟩⟩
      simp only [execOp, hop, hρ]
      exact exec_u _ _ hrun
     rcases upd_ok hkv hxv 0 g3 h1 with ⟨j, e, u, p1, p2, p3, p4, p5⟩ | ⟨p1, rfl⟩
     ·refine fin (ents.modify j fun e => { e with key := ρ k, val := ρ x }) clock ⟨by rw [Array.toList_modify]; exact p5, g4.modify _ _ (fun _ => rfl)⟩ ?_
      have hj : ents[j]? = some e := by rw [<- Array.getElem?_toList]; exact p1
      have hstay : (Instr.keyThatStays (((ents[j]?).map (·.key)).getD (ρ k)) (ρ k)).run E.P w = .ok (ρ k) w := by
       simp [hj, Instr.keyThatStays, p4]
      simp only [Nat.zero_add] at p2
      simp only [Instr.mapUpdate, Sem.run_bind, run_underlying hu, Result.andThen_ok, hgo, hck, Instr.findKey, run_underlying hd, p2, Sem.run_pure, hstay, hset]
     ·refine fin (ents.push { key := ρ k, val := ρ x, born := clock }) (clock + 1) ?_ ?_
      ·refine ⟨?_, g4.push _ _⟩
       rw [Array.toList_push]
       exact ⟨by simpa using g3.1.append (VRs.cons hkv (VRs.nil M)), by simpa using g3.2.append (VRs.cons hxv (VRs.nil M))⟩
      ·simp only [Instr.mapUpdate, Sem.run_bind, run_underlying hu, Result.andThen_ok, hgo, hck, Instr.findKey, run_underlying hd, p1, Sem.run_pure, hset]
 | mapEntry t m k =>
   simp only [hop] at he
   split at he
   case h_2 => simp at he
   rename_i kt et id key hu hm hk
   split at he
   case h_2 => simp at he
   rename_i d es z hd hg hz
   split at he
   case isFalse => simp at he
   rename_i hkf
   obtain ⟨⟨rv, rn, es'⟩, h1, h2⟩ := Option.map_eq_some_iff.1 he
   simp only [Option.some.injEq, Prod.mk.injEq] at h2
   obtain ⟨rfl, rfl⟩ := h2
   have hmv := ev_plain hev hm
   have hkv := ev_plain hev hk
   generalize hρ : ρ m = rm at hmv
   cases hmv with
   | @map _ b hl =>
     obtain ⟨b', ents, clock, g1, g2, g3, g4⟩ := a.maps id es hg
     rw [hl] at g1; simp at g1; subst g1
     have hck := run_checkKey (M := M) (emp := false) hd hkf hkv w 9999
     have hgo : (getObj b).run E.P w = .ok (.map ents clock) w := by simp [getObj, Sem.run, g2]
     have hset : ∀ ob, (setObj b ob).run E.P w = .ok () { w with heap := w.heap.setIfInBounds b ob } := by
      intro ob; simp [setObj, Sem.run, g2]
     have hblt : b < w.heap.size := lt_of_some g2
     have fin : ∀ ents' clock' r, MRs M es' ents'.toList /\ Brn ents' clock' -> VR M (.tuple [rv, .int .i64 rn]) r -> (Instr.mapEntry t (.map (some b)) (ρ k)).run E.P w = .ok r { w with heap := w.heap.setIfInBounds b (.map ents' clock') } -> EEnd E M h w o ρ (some (.v (.tuple [rv, .int .i64 rn]))) (h.set id (.map es')) := by
      intro ents' clock' r hmr hr hrun
      obtain ⟨q1, q2⟩ := set_map (w' := { w with heap := w.heap.setIfInBounds b (.map ents' clock') }) a (ents := ents') (clock := clock') (es' := es') hg hl (fun j hj => by simp [Array.getElem?_setIfInBounds, show ¬ (b = j) from fun e => hj e.symm]) (by simp) ⟨rfl, rfl, rfl⟩ (by simp [Array.getElem?_setIfInBounds, hblt]) hmr
      refine ⟨_, M, q1, q2, .inl ⟨_, r, rfl, ?_, hr⟩⟩
      simp only [execOp, hop, hρ]
      exact exec_v _ _ hrun
     unfold entIV at h1
     split at h1
     ·rename_i y hf
      obtain ⟨es2, u1, u2⟩ := Option.map_eq_some_iff.1 h1
      simp only [Prod.mk.injEq] at u2
      obtain ⟨rfl, rfl, rfl⟩ := u2
      obtain ⟨j0, u0, _, hvy⟩ := findIV_ok hkv 0 g3 hf
      obtain ⟨e, u, p1, p2, p3, p4, p5, p6, p7⟩ := upd_pos (v := y) (rv := u0) hkv hvy 0 g3 hf u1
      have hj : ents[posIV d key es]? = some e := by rw [<- Array.getElem?_toList]; exact p1
      simp only [Nat.zero_add] at p2
      rename_i hf0 _
      have hu0 : u0 = u := by
       have := (‹Instr.findNow d (ρ k) ents.toList 0 = some (some (j0, u0))›)
       rw [p2] at this
       simp only [Option.some.injEq, Prod.mk.injEq] at this
       exact this.2.symm
      subst hu0
      have hmod : (ents.modify (posIV d key es) fun e => { e with key := ρ k, val := u0 }) = ents.modify (posIV d key es) fun e => { e with key := ρ k } := by
       apply Array.ext_getElem?
       intro j
       rw [Array.getElem?_modify, Array.getElem?_modify]
       split
       ·rename_i hjj
        rw [<- hjj, hj]
        simp [p4]
       ·rfl
      refine fin (ents.modify (posIV d key es) fun e => { e with key := ρ k }) clock (.tuple #[u0, goInt (posIV d key es)]) ⟨?_, g4.modify _ _ (fun _ => rfl)⟩ (vr_tuple_mk (VRs.cons p3 (VRs.cons (.int _ _) (VRs.nil M)))) ?_
      ·rw [<- hmod, Array.toList_modify]; exact p7
      have hstay : (Instr.keyThatStays (((ents[posIV d key es]?).map (·.key)).getD (ρ k)) (ρ k)).run E.P w = .ok (ρ k) w := by
       simp [hj, Instr.keyThatStays, p6]
      have hborn : (((ents[posIV d key es]?).map (fun x => (x.born : Int))).getD 0) = (posIV d key es : Int) := by
       rw [hj]
       have := g4.2 _ _ hj
       simp [this]
      simp only [Instr.mapEntry, Sem.run_bind, run_underlying hu, Result.andThen_ok, hgo, hck, Instr.findKey, run_underlying hd, p2, Sem.run_pure, hstay, hset, hborn]
     ·rename_i hf
      simp only [Option.some.injEq, Prod.mk.injEq] at h1
      obtain ⟨rfl, rfl, rfl⟩ := h1
      obtain ⟨i, r, z1, z2, z3, z4⟩ := zeroIV_info (M := M) hz
      have hfo := find_none hkv g3 hf
      have hcl : clock = es.length := by rw [g4.1]; have := g3.len; simpa using this.symm
      refine fin (ents.push { key := ρ k, val := r, born := clock }) (clock + 1) (.tuple #[r, goInt clock]) ⟨?_, g4.push _ _⟩ (vr_tuple_mk (VRs.cons z3 (VRs.cons (by rw [hcl]; exact .int _ _) (VRs.nil M)))) ?_
      ·rw [Array.toList_push]
       exact ⟨by simpa using g3.1.append (VRs.cons hkv (VRs.nil M)), by simpa using g3.2.append (VRs.cons z3 (VRs.nil M))⟩
      ·simp only [Instr.mapEntry, Sem.run_bind, run_underlying hu, Result.andThen_ok, hgo, hck, Instr.findKey, run_underlying hd, hfo, Sem.run_pure, run_zeroValue w z1 z2, hset]
     ·cases h1
 | entryStore t m s x =>
   simp only [hop] at he
   split at he
   case h_2 => simp at he
   rename_i id kd n v' hm hs hx
   split at he
   case h_2 => simp at he
   rename_i es hg
   split at he
   case isFalse => simp at he
   rename_i hn
   simp only [Option.some.injEq, Prod.mk.injEq] at he
   obtain ⟨rfl, rfl⟩ := he
   have hmv := ev_plain hev hm
   have hsv := ev_plain hev hs
   have hxv := ev_plain hev hx
   generalize hρ : ρ m = rm at hmv
   generalize hρs : ρ s = rs at hsv
   cases hsv
   cases hmv with
   | @map _ b hl =>
     obtain ⟨b', ents, clock, g1, g2, g3, g4⟩ := a.maps id es hg
     rw [hl] at g1; simp at g1; subst g1
     have hgo : (getObj b).run E.P w = .ok (.map ents clock) w := by simp [getObj, Sem.run, g2]
     have hset : ∀ ob, (setObj b ob).run E.P w = .ok () { w with heap := w.heap.setIfInBounds b ob } := by
      intro ob; simp [setObj, Sem.run, g2]
     have hblt : b < w.heap.size := lt_of_some g2
     have hlen : es.length = ents.size := by have := g3.len; simpa using this
     have hnl : n.toNat < ents.size := by omega
     have hfi : ents.findIdx? (fun e => (e.born : Int) == n) = some n.toNat := by
      rw [Array.findIdx?_eq_some_iff_getElem]
      refine ⟨hnl, ?_, fun j hj => ?_⟩
      ·have := g4.2 n.toNat _ (Array.getElem?_eq_getElem hnl)
       rw [this]
       simp; omega
      ·have := g4.2 j _ (Array.getElem?_eq_getElem (by omega))
       rw [this]
       simp; omega
     obtain ⟨q1, q2⟩ := set_map (w' := { w with heap := w.heap.setIfInBounds b (.map (ents.modify n.toNat fun e => { e with val := ρ x }) clock) }) a (ents := ents.modify n.toNat fun e => { e with val := ρ x }) (clock := clock) (es' := putIV v' n.toNat es) hg hl (fun j hj => by simp [Array.getElem?_setIfInBounds, show ¬ (b = j) from fun e => hj e.symm]) (by simp) ⟨rfl, rfl, rfl⟩ (by simp [Array.getElem?_setIfInBounds, hblt]) ⟨by rw [Array.toList_modify]; exact put_ok hxv _ g3, g4.modify _ _ (fun _ => rfl)⟩
     refine ⟨_, M, q1, q2, .inr ⟨rfl, ?_⟩⟩
     simp only [execOp, hop, hρ, hρs]
     refine exec_u _ _ ?_
     simp only [Instr.entryStore, Sem.run_bind, Sem.run_pure, Result.andThen_ok, hgo, asInt, asIntOf, hfi, hset]
 | call c =>
   obtain ⟨callee, args, argTypes⟩ := c
   simp only [hop] at he
   cases callee with
   | value x => simp at he
   | invoke x n => simp at he
   | builtin b =>
     cases b
     case append =>
      simp only at he
      split at he
      case h_2 => simp at he
      rename_i t u sx xx hat har
      have hat' : argTypes = #[t, u] := by apply Array.ext'; simpa using hat
      have har' : args = #[sx, xx] := by apply Array.ext'; simpa using har
      split at he
      case h_2 => simp at he
      rename_i s x e du d hs hx ht hu hd
      split at he
      case h_2 => simp at he
      rename_i sz bytes z hsz hby hz
      split at he
      case isFalse => simp at he
      rename_i hcond
      obtain ⟨hzl, hk⟩ := hcond
      obtain ⟨⟨r, h''⟩, h1, h2⟩ := Option.map_eq_some_iff.1 he
      simp at h2; obtain ⟨rfl, rfl⟩ := h2
      obtain ⟨i, hi1, hi2⟩ := szOf_info hsz
      obtain ⟨i', hi3, hi4⟩ := bytesOf_info hby
      rw [hi1] at hi3; simp at hi3; subst hi3
      obtain ⟨rz, hz1, hz2⟩ := cells_zero (M := M) hz hi1
      have hzs : rz.cells.size = sz + 1 := by have := hz2.len; simp at this; omega
      obtain ⟨rr, w', M', a1, a2, a3, a4⟩ := append_ok (P := E.P) a (ty := o.type) ht hi1 hi2 hi4 hz1 hzs hu hk (ev_plain hev hs) (ev_plain hev hx) h1
      refine ⟨w', M', a3, a4, .inl ⟨_, rr, rfl, ?_, a2⟩⟩
      subst hat'; subst har'
      simp only [execOp, hop, resolve, invoke, Sem.run_bind, Sem.run_pure, Result.andThen_ok, builtin]
      simp only [List.map_toArray, List.map_cons, List.map_nil, a1, Result.andThen_ok]
     case copy =>
      simp only at he
      split at he
      case h_2 => simp at he
      rename_i t ts sx xx hat har
      have har' : args = #[sx, xx] := by apply Array.ext'; simpa using har
      split at he
      case h_2 => simp at he
      rename_i id off len z x e hs hx ht
      split at he
      case h_2 => simp at he
      rename_i sz cs hsz hg
      split at he
      case h_2 => simp at he
      rename_i n xs hsrc
      split at he
      case isFalse => simp at he
      rename_i hcond
      obtain ⟨rfl, hle⟩ := hcond
      simp only [Option.some.injEq, Prod.mk.injEq] at he
      obtain ⟨rfl, rfl⟩ := he
      obtain ⟨i, hi1, hi2⟩ := szOf_info hsz
      obtain ⟨s1, s2, s3, s4⟩ := src_ok (P := E.P) a (ev_plain hev hx) hsrc
      obtain ⟨news, n1, n2, n3, n4⟩ := s4 (min n len) (Nat.min_le_left _ _)
      obtain ⟨b', rc, l1, l2, l3, l4, l5⟩ := a.row hg
      have hsv := ev_plain hev hs
      generalize hρ : ρ sx = rs at hsv
      have hat0 : argTypes[0]? = some t := by rw [<- Array.getElem?_toList, hat]; rfl
      cases hsv with
      | @hslice _ _ _ _ cap b ad hl had hlen =>
        rw [hl] at l1; simp at l1; subst l1
        have hml : min n len * (sz + 1) <= len * (sz + 1) := Nat.mul_le_mul_right _ (Nat.min_le_right _ _)
        have hnl : (xs.take (min n len * (sz + 1))).length = news.length := n1.len
        obtain ⟨el, fz, hbk⟩ := l2.at_
        obtain ⟨rc', e1, e2⟩ := setCells_heap b news off w rc el fz hbk (by omega)
        have hsize : rc'.size = rc.size := by
         have := congrArg List.length e2
         rw [splV_length _ _ _ (by simp; omega)] at this
         simpa using this
        have hfrz : ∀ j, (w.setCells b off news).frozen? ⟨b, j, none⟩ = w.frozen? ⟨b, j, none⟩ := fun j => World.frozen?_setCells b _ _ _ _
        have hslen : (spl cs off (xs.take (min n len * (sz + 1)))).length = cs.length := by
         simp only [spl, List.length_append, List.length_take, List.length_drop]
         omega
        obtain ⟨q1, q2⟩ := set_cells a (cs' := spl cs off (xs.take (min n len * (sz + 1)))) hg hl (fun k hk => setCells_other b _ _ _ k hk) (setCells_size b _ _ _) (setCells_rest b _ _ _)
         ⟨⟨el, fz, e1⟩, fun j hj => by rw [hfrz]; exact l2.free j (by omega), by rw [hsize]; exact l2.bsz⟩ (by rw [hslen]; omega) (by
          rw [hslen, e2]
          have : (splV rc.toList off news).take cs.length = splV (rc.toList.take cs.length) off news := by
           simp only [splV]
           rw [List.take_append, List.take_append]
           simp only [List.length_take, List.length_append, List.take_take, Array.length_toList]
           rw [show min off rc.size = off from by omega, show min cs.length off = off from by omega, show min off cs.length = off from by omega]
           rw [List.take_of_length_le (l := news) (by omega), List.drop_take]
          rw [this]
          exact l4.spl n1 off)
        refine ⟨_, M, q1, q2, .inl ⟨_, goInt (min n len : Nat), rfl, ?_, .int _ _⟩⟩
        subst har'
        simp only [execOp, hop, resolve, invoke, Sem.run_bind, Sem.run_pure, Result.andThen_ok, builtin]
        have hcopy : (Builtin.copy_ argTypes o.type #[.slice (some ad) len cap, ρ xx]).run E.P w = .ok (goInt (min n len : Nat)) (w.setCells b off news) := by
         have hst : (storeCells ad news 0).run E.P w = .ok () (w.setCells b off news) := by
          by_cases h0 : cap = 0
          ·have : news = [] := by
            have : min n len = 0 := by omega
            rw [this] at n2; simpa using n2
           subst this; rfl
          ·obtain ⟨rfl, _⟩ := had.resolve_left h0
           exact run_storeCells_cells (P := E.P) b off news 0 w (by
            intro j hj
            simp [World.cell?, hbk, show off + j < rc.size by omega]) (by
            intro j hj
            simpa using l2.free (off + j) (by omega)) n1.one
         have hmin : Nat.min n len = min n len := rfl
         simp [Builtin.copy_, hat0, run_underlying ht, s2, run_sizeOf hi1, hi2, hmin, n3, hst]
        simp only [List.map_toArray, List.map_cons, List.map_nil, hρ, hcopy, Result.andThen_ok]
     all_goals simp at he
 | _ => simp [hop] at he
end
end
end Go.Pv
