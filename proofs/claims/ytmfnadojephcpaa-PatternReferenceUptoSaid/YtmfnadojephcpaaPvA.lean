import Derived.Test.YtmfnadojephcpaaPvE
import Derived.Test.YtmfnadojephcpaaPvLayRow
set_option linter.unusedSimpArgs false
namespace Go.Pv
open Go
def appendAt (h : Heap) (m way sz bytes : Nat) (s x : IV) : Option (IV × Heap) := match s, x with
 | .nilslice, .hslice _ _ _ _ => none
 | .nilslice, x => match srcCells h sz x with
   | some (n, xs) => if 0 < n /\ n * bytes <= 140737488355328 then some (newRowAt h m way n sz xs) else none
   | none => none
 | _, _ => none
section
variable {P : Program} {M : Meta} {h : Heap} {w : World}
theorem appendAt_ok (a : Inv M h w) {m : Nat} (hn0 : h.get m = .free) {way sz bytes : Nat} {t tx ty e : TypeId} {i : TypeInfo} {z : Value} {du : TypeDesc} {s x v : IV} {rs rx : Value} {h' : Heap} (ht : P.underlying t = some (.slice e)) (hi : P.info? e = some i) (hsz : i.size = sz + 1) (hby : i.bytes = bytes + 1)
  (hz : i.zero = some z) (hzl : z.cells.size = sz + 1) (hu : P.underlying tx = some du) (hk : srcKind du = true) (hs : VR M s rs) (hx : VR M x rx) (happ : appendAt h m way (sz + 1) (bytes + 1) s x = some (v, h')) :
  ∃ r w' M', (Builtin.append_ #[t, tx] ty #[rs, rx]).run P w = .ok r w' /\ VR M' v r /\ Inv M' h' w' /\ Pres w.heap.size M h w M' h' w' := by
 unfold appendAt at happ
 split at happ
 ·simp at happ
 ·split at happ
  case h_2 => simp at happ
  rename_i n xs hsrc
  split at happ
  case isFalse => simp at happ
  rename_i hb0
  obtain ⟨hn, hb⟩ := hb0
  simp only [Option.some.injEq] at happ
  cases hs
  obtain ⟨news, hc, hS⟩ := src_Src (P := P) a hu hk hx hsrc
  have hxl : xs.length = n * (sz + 1) := (src_ok (P := P) a hx hsrc).1
  have hnl : news.length = n * (sz + 1) := by rw [<- hc.len, hxl]
  rw [<- hsz] at hS
  have hzero : ∀ m, (Builtin.zeroCells z.cells m).size = m * (sz + 1) := fun m => by rw [size_zeroCells, hzl]
  have hfit : Builtin.nextslicecap (0 + n) 0 * i.bytes <= 281474976710656 := growslice_fits (by omega) (by rw [hby]; simpa using hb)
  have h63 : ((0 + n : Nat) : Int) <= 9223372036854775807 := by
   have : n * 1 <= n * (bytes + 1) := Nat.mul_le_mul_left _ (by omega)
   omega
  have hrun := run_append_grow_src (P := P) w t tx ty e i z ht hi hz none 0 0 [] (run_firstCells_none w.drew i.size 0 0 0) rx n news hS (by omega) h63 hfit
  simp only [List.nil_append, Nat.zero_add] at hrun
  have hge := grownCap_ge w n 0 e
  have hcap : grownCap w n 0 e * (sz + 1) <= (news.toArray ++ Builtin.zeroCells z.cells (grownCap w n 0 e - n)).size := by
   simp only [Array.size_append, List.size_toArray, hnl, hzero]
   rw [<- Nat.add_mul]
   exact Nat.mul_le_mul_right _ (by omega)
  obtain ⟨M', r1, r2, r3⟩ := newRowAt_ok a hn0 way (fun _ => by rw [hxl]; exact Nat.mul_pos hn (Nat.succ_pos _)) (fz := (0, 0)) (cut_drew w _) (.inl (Nat.le_refl _)) hxl hge hcap (by
   rw [hxl, <- hnl]
   simpa using hc)
  rw [happ] at r1 r2 r3
  exact ⟨_, _, M', hrun, r3, r1, r2⟩
 ·simp at happ
end
section
variable (E : Env) (f : FuncId) (o : Oper) (ev : Operand -> Option TV) (h : Heap) (n : Nat)
def aSem : Option (Option TV × Heap) :=
 match o.op with
 | .alloc t => match o.dst with
   | some d => if E.bx f d = 0 then none else (zeroIV E.P t).map fun z => (some (.v (.ptr n 0)), h.set n (.cells (cellsOf z)))
   | none => none
 | .makeSlice t l c => match E.P.underlying t, o.dst, asI (ev l), asI (ev c) with
   | some (.slice e), some d, some l, some c => match szOf E.P e, bytesOf E.P e, zeroIV E.P e with
     | some (sz + 1), some bytes, some z =>
       if 0 <= l /\ l <= c /\ c <= 9223372036854775807 /\ bytes * c <= 140737488355328 /\ (cellsOf z).length = sz + 1 /\ (1 - E.A f d = 0 -> 0 < l.toNat) then
        let r := newRowAt h n (1 - E.A f d) l.toNat (sz + 1) (repl l.toNat (cellsOf z)); some (some (.v r.1), r.2)
       else none
     | _, _, _ => none
   | _, _, _, _ => none
 | .makeMap _ r => match r with
   | none => some (some (.v (.map n)), h.set n (.map []))
   | some _ => none
 | .call { callee := .builtin .append, args, argTypes } =>
   match argTypes.toList, args.toList with
   | [t, u], [sx, xx] => match plain (ev sx), plain (ev xx), E.P.underlying t, E.P.underlying u, o.dst with
     | some s, some x, some (.slice e), some du, some d => match szOf E.P e, bytesOf E.P e, zeroIV E.P e with
       | some (sz + 1), some (bytes + 1), some z => if (cellsOf z).length = sz + 1 /\ srcKind du = true then (appendAt h n (E.A f d) (sz + 1) (bytes + 1) s x).map fun r => (some (.v r.1), r.2) else none
       | _, _, _ => none
     | _, _, _, _, _ => none
   | _, _ => none
 | _ => none
end
section
variable {M : Meta} {h : Heap} {w : World} {E : Env} {f : FuncId} {o : Oper} {ev : Operand -> Option TV} {ρ : Operand -> Value} {pb : Nat -> Nat}
theorem aSem_ok (a : Inv M h w) {n : Nat} (hn : h.get n = .free) (hev : ∀ x tv, ev x = some tv -> TR M pb tv (ρ x)) {v : Option TV} {h' : Heap} (he : aSem E f o ev h n = some (v, h')) : EEnd E M h w o ρ v h' := by
 unfold aSem at he
 cases hop : o.op with
 | alloc t =>
   simp only [hop] at he
   split at he
   case h_2 => simp at he
   split at he
   ·simp at he
   obtain ⟨z, h1, h2⟩ := Option.map_eq_some_iff.1 he
   simp at h2; obtain ⟨rfl, rfl⟩ := h2
   obtain ⟨i, r, h3, h4, h5, h6⟩ := zeroIV_info (M := M) h1
   have hc := vr_cells h5 h6
   have hl : (cellsOf z).length = r.cells.size := by simpa using hc.len
   obtain ⟨M', q1, q2, q3, q4⟩ := lay_cells a hn (fz := (0, 0)) (cs := cellsOf z) (NewBlk.alloc w (.cells r.cells t)) (.inl (Nat.le_refl _)) (by omega) (by rw [List.take_of_length_le (by simp; omega)]; exact hc)
   refine ⟨_, M', q1, q2, .inl ⟨_, _, rfl, ?_, .ptr q3⟩⟩
   simp only [execOp, hop]
   refine exec_v _ _ ?_
   simp only [Instr.alloc, Sem.run_bind, run_zeroValue w h3 h4, Result.andThen_ok, newVar, Go.newRow, run_newObj, Sem.run_pure]
   rfl
 | makeSlice t lo co =>
   simp only [hop] at he
   split at he
   case h_2 => simp at he
   rename_i e d l c hu hd hl hc
   split at he
   case h_2 => simp at he
   rename_i sz bytes z hsz hby hz
   split at he
   case isFalse => simp at he
   rename_i hcond
   obtain ⟨b1, b2, b3, b4, hzl, b5⟩ := hcond
   simp only [Option.some.injEq, Prod.mk.injEq] at he
   obtain ⟨rfl, rfl⟩ := he
   obtain ⟨kl, hkl⟩ := asI_ok hl
   obtain ⟨kc, hkc⟩ := asI_ok hc
   have vl : VR M (.int kl l) (ρ lo) := hev _ _ hkl
   have vc : VR M (.int kc c) (ρ co) := hev _ _ hkc
   generalize hρl : ρ lo = rl at vl
   generalize hρc : ρ co = rc at vc
   cases vl
   cases vc
   obtain ⟨i, hi1, hi2⟩ := szOf_info hsz
   obtain ⟨i', hi3, hi4⟩ := bytesOf_info hby
   rw [hi1] at hi3; simp at hi3; subst hi3
   obtain ⟨rz, hz1, hz2⟩ := cells_zero (M := M) hz hi1
   have hrep := repl_ok hz2 (by omega) l.toNat
   have hrepc := repl_ok hz2 (by omega) c.toNat
   rw [hzl] at hrep hrepc
   have hlc : l.toNat <= c.toNat := by omega
   have hmul : l.toNat * (sz + 1) <= c.toNat * (sz + 1) := Nat.mul_le_mul_right _ hlc
   have hrl : (repl l.toNat (cellsOf z)).length = l.toNat * (sz + 1) := by rw [repl_length, hzl]
   obtain ⟨M', q1, q2, q3⟩ := newRowAt_ok a hn (1 - E.A f d) (by intro hw; rw [hrl]; have := b5 hw; exact Nat.mul_pos this (Nat.succ_pos _)) (rc := (Array.range (c.toNat * (sz + 1))).map (rz.cells[· % rz.cells.size]!)) (fz := (0, 0)) (NewBlk.alloc w (.cells _ e)) (.inl (Nat.le_refl _)) hrl hlc (by simp) (by
    rw [hrl]
    have : ((Array.range (c.toNat * (sz + 1))).map (rz.cells[· % rz.cells.size]!)).toList.take (l.toNat * (sz + 1)) = ((Array.range (l.toNat * (sz + 1))).map (rz.cells[· % rz.cells.size]!)).toList := by
     apply List.ext_getElem?
     intro j
     by_cases hj : j < l.toNat * (sz + 1)
     ·simp [hj, show j < c.toNat * (sz + 1) by omega]
     ·have hmn : min l.toNat c.toNat = l.toNat := Nat.min_eq_left hlc
      simp [hj, hmn]
    rw [this]
    exact hrep)
   refine ⟨_, M', q1, q2, .inl ⟨_, _, rfl, ?_, q3⟩⟩
   simp only [execOp, hop, hρl, hρc]
   refine exec_v _ _ ?_
   have wl : IntKind.i64.wrap l = l := IntWalk.i64_in _ (by omega)
   have wc : IntKind.i64.wrap c = c := IntWalk.i64_in _ (by omega)
   have t1 : ∀ n : Int, 0 <= n -> n <= c -> (decide (n < 0) || decide ((bytes : Int) * n > 2 ^ 48)) = false := by
    intro n h0 hn
    have : (bytes : Int) * n <= bytes * c := Int.mul_le_mul_of_nonneg_left hn (by omega)
    have e1 : decide (n < 0) = false := by simp; omega
    have e2 : decide ((bytes : Int) * n > 2 ^ 48) = false := by simp; omega
    rw [e1, e2]; rfl
   have hty : (typeInfo e).run E.P w = .ok i w := by simp [typeInfo, hi1]
   simp only [Instr.makeSlice, Sem.run_bind, run_underlying hu, Result.andThen_ok, asInt, asIntOf, Sem.run_pure, hty, wl, wc, hi4]
   have e3 : (decide (c < 0) || decide ((bytes : Int) * c > 2 ^ 48) || decide (l < 0) || decide (l > c)) = false := by
    rw [t1 c (by omega) (by omega)]
    have e1 : decide (l < 0) = false := by simp; omega
    have e2 : decide (l > c) = false := by simp; omega
    rw [e1, e2]; rfl
   have hi2' : i.size = sz + 1 := hi2
   simp only [e3, Bool.false_eq_true, if_false, Sem.run_pure, Result.andThen_ok, run_askRoom, run_sizeOf hi1, hi2', Sem.run_bind]
   by_cases hn0 : c.toNat * (sz + 1) = 0
   ·rw [if_pos hn0]
    simp only [Sem.run_bind, Sem.run_pure, Result.andThen_ok, Go.newRow, run_newObj, hn0]
    rw [map_range0 _ (fun x => rz.cells[x % rz.cells.size]!)]
    rfl
   ·rw [if_neg hn0]
    simp only [Sem.run_bind, Sem.run_pure, Result.andThen_ok, run_zeroValue w hi1 hz1, Go.newRow, run_newObj]
    rfl
 | makeMap t r =>
   simp only [hop] at he
   split at he
   case h_2 => simp at he
   simp at he; obtain ⟨rfl, rfl⟩ := he
   obtain ⟨M', q1, q2, q3⟩ := lay_map a hn (NewBlk.alloc w (.map #[] 0))
   refine ⟨_, M', q1, q2, .inl ⟨_, _, rfl, ?_, .map q3⟩⟩
   simp only [execOp, hop]
   refine exec_v _ _ ?_
   simp only [Instr.makeMap, Option.map_none, Sem.run_bind, Sem.run_pure, Result.andThen_ok, run_newObj]
   rfl
 | call c =>
   obtain ⟨callee, args, argTypes⟩ := c
   simp only [hop] at he
   cases callee with
   | value x => simp at he
   | invoke x n => simp at he
   | builtin b =>
     cases b
     case append =>
      simp only at he
      split at he
      case h_2 => simp at he
      rename_i t u sx xx hat har
      have hat' : argTypes = #[t, u] := by apply Array.ext'; simpa using hat
      have har' : args = #[sx, xx] := by apply Array.ext'; simpa using har
      split at he
      case h_2 => simp at he
      rename_i s x e du d hs hx ht hu hd
      split at he
      case h_2 => simp at he
      rename_i sz bytes z hsz hby hz
      split at he
      case isFalse => simp at he
      rename_i hcond
      obtain ⟨hzl, hk⟩ := hcond
      obtain ⟨⟨r, h''⟩, h1, h2⟩ := Option.map_eq_some_iff.1 he
      simp at h2; obtain ⟨rfl, rfl⟩ := h2
      obtain ⟨i, hi1, hi2⟩ := szOf_info hsz
      obtain ⟨i', hi3, hi4⟩ := bytesOf_info hby
      rw [hi1] at hi3; simp at hi3; subst hi3
      obtain ⟨rz, hz1, hz2⟩ := cells_zero (M := M) hz hi1
      have hzs : rz.cells.size = sz + 1 := by have := hz2.len; simp at this; omega
      obtain ⟨rr, w', M', a1, a2, a3, a4⟩ := appendAt_ok (P := E.P) a hn (ty := o.type) ht hi1 hi2 hi4 hz1 hzs hu hk (ev_plain hev hs) (ev_plain hev hx) h1
      refine ⟨w', M', a3, a4, .inl ⟨_, rr, rfl, ?_, a2⟩⟩
      subst hat'; subst har'
      simp only [execOp, hop, resolve, invoke, Sem.run_bind, Sem.run_pure, Result.andThen_ok, builtin]
      simp only [List.map_toArray, List.map_cons, List.map_nil, a1, Result.andThen_ok]
     all_goals simp at he
 | _ => simp [hop] at he
theorem srcA_eq {sz : Nat} {x : IV} {r : Nat × List IV} (hs : srcA sz x = some r) (h : Heap) : srcCells h sz x = some r /\ ∀ id off len z, x ≠ .hslice id off len z := by
 unfold srcA at hs
 unfold srcCells
 cases x <;> simp_all
theorem aSem_of {n : Nat} {v : Option TV} {x : IObj} (ha : aSh E f o ev n = some (v, some x)) : aSem E f o ev h n = some (v, h.set n x) := by
 unfold aSh at ha
 unfold aSem
 cases hop : o.op <;> simp only [hop] at ha ⊢
 all_goals try (cases ha; done)
 case alloc t =>
  split at ha
  ·rename_i d hd
   split at ha
   ·cases ha
   ·rename_i hb
    obtain ⟨z, h1, h2⟩ := Option.map_eq_some_iff.1 ha
    simp only [Prod.mk.injEq, Option.some.injEq] at h2
    obtain ⟨rfl, rfl⟩ := h2
    simp [hd, hb, h1]
  ·cases ha
 case makeSlice t l c =>
  split at ha
  case h_2 => cases ha
  rename_i e d l c hu hd hl hc
  split at ha
  case h_2 => cases ha
  rename_i sz bytes z hsz hby hz
  simp only [hu, hd, hl, hc, hsz, hby, hz]
  split at ha
  ·rename_i hc
   simp only [Option.some.injEq, Prod.mk.injEq] at ha
   obtain ⟨rfl, rfl⟩ := ha
   rw [if_pos hc]
   rfl
  ·cases ha
 case makeMap t r =>
  split at ha
  ·simp only [Option.some.injEq, Prod.mk.injEq] at ha
   obtain ⟨rfl, rfl⟩ := ha
   rfl
  ·cases ha
 case call c =>
  obtain ⟨callee, args, argTypes⟩ := c
  cases callee with
  | value x => simp at ha
  | invoke x n => simp at ha
  | builtin b =>
    cases b <;> simp only at ha ⊢
    all_goals try (cases ha; done)
    split at ha
    case h_2 => cases ha
    rename_i t u sx xx hat har
    split at ha
    case h_2 => cases ha
    rename_i x1 e du d hs hx ht hu hd
    split at ha
    case h_2 => cases ha
    rename_i sz bytes z hsz hby hz
    simp only [hat, har, hs, hx, ht, hu, hd, hsz, hby, hz]
    split at ha
    case isFalse => cases ha
    rename_i hc
    rw [if_pos hc]
    split at ha
    case h_2 => cases ha
    rename_i k xs hsrc
    split at ha
    ·simp at ha
    rename_i hk
    split at ha
    case isFalse => cases ha
    rename_i hb
    simp only [Option.some.injEq, Prod.mk.injEq] at ha
    obtain ⟨rfl, rfl⟩ := ha
    obtain ⟨e1, e2⟩ := srcA_eq hsrc h
    have : ∀ {x : IV} (_ : ∀ id off len z, x ≠ .hslice id off len z) {m way sz bytes : Nat}, appendAt h m way sz bytes .nilslice x = match srcCells h sz x with
      | some (n, xs) => if 0 < n /\ n * bytes <= 140737488355328 then some (newRowAt h m way n sz xs) else none
      | none => none := by
     intro x hx m way sz bytes
     unfold appendAt
     cases x
     case hslice id off len z => exact absurd rfl (hx id off len z)
     all_goals rfl
    rw [this e2, e1]
    simp only
    rw [if_pos ⟨by omega, hb⟩]
    rfl
theorem aSh_none {n : Nat} {v : Option TV} (ha : aSh E f o ev n = some (v, none)) : eSem E f o ev h = some (v, h) := by
 unfold aSh at ha
 unfold eSem
 cases hop : o.op <;> simp only [hop] at ha ⊢
 all_goals try (cases ha; done)
 case alloc t =>
  split at ha
  ·split at ha
   ·cases ha
   ·obtain ⟨z, h1, h2⟩ := Option.map_eq_some_iff.1 ha
    simp at h2
  ·cases ha
 case makeSlice t l c =>
  split at ha
  case h_2 => cases ha
  split at ha
  case h_2 => cases ha
  split at ha
  ·simp at ha
  ·cases ha
 case makeMap t r =>
  split at ha
  ·simp at ha
  ·cases ha
 case call c =>
  obtain ⟨callee, args, argTypes⟩ := c
  cases callee with
  | value x => simp at ha
  | invoke x n => simp at ha
  | builtin b =>
    cases b <;> simp only at ha ⊢
    all_goals try (cases ha; done)
    split at ha
    case h_2 => cases ha
    rename_i t u sx xx hat har
    split at ha
    case h_2 => cases ha
    rename_i x1 e du d hs hx ht hu hd
    split at ha
    case h_2 => cases ha
    rename_i sz bytes z hsz hby hz
    simp only [hat, har, hs, hx, ht, hu, hd, hsz, hby, hz]
    split at ha
    case isFalse => cases ha
    rename_i hc
    rw [if_pos hc]
    split at ha
    case h_2 => cases ha
    rename_i k xs hsrc
    obtain ⟨e1, e2⟩ := srcA_eq hsrc h
    split at ha
    ·rename_i hk
     simp only [Option.some.injEq, Prod.mk.injEq, and_true] at ha
     subst ha
     unfold appendIV
     rw [e1]
     simp [hk]
    ·split at ha
     ·simp at ha
     ·cases ha
theorem aSh_ok (a : Inv M h w) {n : Nat} (hev : ∀ x tv, ev x = some tv -> TR M pb tv (ρ x)) {v : Option TV} {x : IObj} (hn : h.get n = .free) (ha : aSh E f o ev n = some (v, some x)) : EEnd E M h w o ρ v (h.set n x) := aSem_ok a hn hev (aSem_of ha)
theorem aSh_ok0 (a : Inv M h w) {n : Nat} (hev : ∀ x tv, ev x = some tv -> TR M pb tv (ρ x)) {v : Option TV} (ha : aSh E f o ev n = some (v, none)) : EEnd E M h w o ρ v h := eSem_ok a hev (aSh_none ha)
end
end Go.Pv
