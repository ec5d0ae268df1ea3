import Derived.Test.YtmfnadojephcpaaPvHeap
namespace Go.Pv
section
variable {M : Meta} {h : Heap} {w : World}
theorem Inv.row (a : Inv M h w) {id : Nat} {cs : List IV} (hg : h.get id = .cells cs) : ∃ b rc, M.loc id = some b /\ Blk M w b rc /\ cs.length <= rc.size /\ CRs M cs (rc.toList.take cs.length) /\ At w b 0 (rc.toList.take cs.length) := by
 obtain ⟨b, rc, h1, h2, h3, h4, h5⟩ := a.cells id cs hg
 refine ⟨b, rc, h1, h2, h3, h4, fun i hi => ?_⟩
 obtain ⟨el, fz, hb⟩ := h2.at_
 simp at hi
 simp [World.cell?, hb, show i < rc.size by omega]
theorem MRs.uncons {k v : IV} {es : List (IV × IV)} {ents : List MapEntry} (h : MRs M ((k, v) :: es) ents) : ∃ e r, ents = e :: r /\ VR M k e.key /\ VR M v e.val /\ MRs M es r := by
 obtain ⟨h1, h2⟩ := h
 cases ents with
 | nil => simp [VRs] at h1
 | cons e r =>
   obtain ⟨_, _, e1, k1, k2⟩ := VRs.uncons h1
   obtain ⟨_, _, e2, v1, v2⟩ := VRs.uncons h2
   simp at e1 e2
   obtain ⟨rfl, rfl⟩ := e1
   obtain ⟨rfl, rfl⟩ := e2
   exact ⟨e, r, rfl, k1, v1, k2, v2⟩
theorem MRs.cons {k v : IV} {es : List (IV × IV)} {e : MapEntry} {r : List MapEntry} (hk : VR M k e.key) (hv : VR M v e.val) (h : MRs M es r) : MRs M ((k, v) :: es) (e :: r) :=
 ⟨VRs.cons hk h.1, VRs.cons hv h.2⟩
theorem MRs.len {es : List (IV × IV)} {ents : List MapEntry} (h : MRs M es ents) : es.length = ents.length := by simpa using h.1.1
theorem sameNow_ok {d : TypeDesc} {x y : IV} {r : Bool} {a b : Value} (h : scalarEq d x y = some r) (hx : VR M x a) (hy : VR M y b) : Instr.sameNow d a b = some r /\ (r = true -> x = y /\ a = b /\ ∀ n, Instr.sameBits n b a = true) := by
 unfold scalarEq at h
 split at h
 ·simp at h; subst h; cases hx; cases hy
  refine ⟨rfl, fun e => ?_⟩
  simp at e; subst e
  exact ⟨rfl, rfl, fun n => by cases n <;> simp [Instr.sameBits]⟩
 ·split at h
  ·rename_i hk
   simp at h; subst h; subst hk; cases hx; cases hy
   refine ⟨by simp [Instr.sameNow], fun e => ?_⟩
   simp at e; subst e
   exact ⟨rfl, rfl, fun n => by cases n <;> simp [Instr.sameBits]⟩
  ·simp at h
 ·simp at h; subst h
  cases hx with | str s1 => cases hy with | str s2 =>
  refine ⟨?_, fun e => ?_⟩
  ·simp only [Instr.sameNow]
   rw [beq_toListBytes, ByteArray.toList_eq, ByteArray.toList_eq]
  ·have e' : s1.data.toList = s2.data.toList := by simpa using e
   have e2 : s1 = s2 := by
    obtain ⟨⟨l1⟩⟩ := s1
    obtain ⟨⟨l2⟩⟩ := s2
    simp at e'; subst e'; rfl
   subst e2
   have hb : (s1 == s1) = true := by rw [beq_toListBytes]; simp
   exact ⟨rfl, rfl, fun n => by cases n <;> simp [Instr.sameBits, hb]⟩
 ·simp at h
def lookCore (kt et : TypeId) (k : Value) (ok : Bool) (ents : Array MapEntry) : Sem Value := do
 Instr.checkKey ents.isEmpty 10000 kt k
 match <- Instr.findKey kt k ents.toList with
 | some (_, v) => pure (if ok then .tuple #[v, .bool true] else v)
 | none => do
   let z <- zeroValue et
   pure (if ok then .tuple #[z, .bool false] else z)
theorem findIV_ok {d : TypeDesc} {k : IV} {rk : Value} (hk : VR M k rk) : ∀ {es : List (IV × IV)} {ents : List MapEntry} {r : Option IV} (i : Nat), MRs M es ents -> findIV d k es = some r ->
  match r with
  | some v => ∃ j rv, Instr.findNow d rk ents i = some (some (j, rv)) /\ VR M v rv
  | none => Instr.findNow d rk ents i = some none
 | [], ents, r, i, hm, h => by
   have : ents = [] := by have := hm.len; simpa using this.symm
   subst this
   simp [findIV] at h; subst h; rfl
 | (x, v) :: es, ents, r, i, hm, h => by
   obtain ⟨e, q, rfl, k1, v1, h2⟩ := hm.uncons
   unfold findIV at h
   split at h
   ·rename_i hs
    simp at h; subst h
    have := (sameNow_ok hs hk k1).1
    exact ⟨i, e.val, by simp [Instr.findNow, this], v1⟩
   ·rename_i hs
    have := (sameNow_ok hs hk k1).1
    have ih := findIV_ok hk (i + 1) h2 h
    simpa [Instr.findNow, this] using ih
   ·simp at h
theorem run_checkKey {P : Program} {kt : TypeId} {d : TypeDesc} {k : IV} {rk : Value} {emp : Bool} (hu : P.underlying kt = some d) (hf : keyFits d k = true) (hk : VR M k rk) (w : World) (n : Nat) : (Instr.checkKey emp (n + 1) kt rk).run P w = .ok () w := by
 unfold keyFits at hf
 split at hf
 ·cases hk; simp [Instr.checkKey, run_underlying hu]
 ·cases hk; simp [Instr.checkKey, run_underlying hu]
 ·cases hk; simp [Instr.checkKey, run_underlying hu]
 ·simp at hf
section
variable {E : Env} {o : Oper} {ev : Operand -> Option TV} {ρ : Operand -> Value} {pb : Nat -> Nat}
theorem rSem_ok (a : Inv M h w) (hev : ∀ x tv, ev x = some tv -> TR M pb tv (ρ x)) {tv : TV} (hr : rSem E o ev h = some tv) :
  ∃ x r, tv = .v x /\ (execOp ρ o).run E.P w = .ok (.value r) w /\ VR M x r := by
 unfold rSem at hr
 cases hop : o.op with
 | load t ad =>
   simp only [hop] at hr
   split at hr
   case h_2 => simp at hr
   rename_i id off ha
   split at hr
   case h_2 => simp at hr
   rename_i cs hg
   obtain ⟨v, h1, h2⟩ := Option.map_eq_some_iff.1 hr
   subst h2
   have hav : VR M (.ptr id off) (ρ ad) := hev _ _ ha
   generalize hρ : ρ ad = ra at hav
   cases hav with
   | @ptr _ _ b hl =>
     obtain ⟨b', rc, l1, l2, l3, l4, l5⟩ := a.row hg
     rw [hl] at l1; simp at l1; subst l1
     obtain ⟨r, h3, h4⟩ := load_ok (P := E.P) l4 l5 h1
     exact ⟨_, r, rfl, by simp only [execOp, hop, hρ, Instr.loadAt, Instr.sureAddr]; exact exec_v _ _ (by simpa using h3), h4⟩
 | convert s d x =>
   simp only [hop] at hr
   split at hr
   case h_2 => simp at hr
   rename_i e id off len hs hd hx
   split at hr
   case h_2 => simp at hr
   rename_i cs he hg
   split at hr
   case isFalse => simp at hr
   rename_i hle
   obtain ⟨b, h1, h2⟩ := Option.map_eq_some_iff.1 hr
   subst h2
   have hav := ev_plain hev hx
   generalize hρ : ρ x = ra at hav
   obtain ⟨b', rc, l1, l2, l3, l4, l5⟩ := a.row hg
   cases hav with
   | @hslice _ _ _ _ cap b0 ad hl had hlen =>
     rw [hl] at l1; simp at l1; subst l1
     refine ⟨_, .string ⟨b.toArray⟩, rfl, ?_, vr_str b⟩
     simp only [execOp, hop, hρ]
     refine exec_v _ _ ?_
     rw [run_convert_bytes_string w s d e _ _ _ hs he hd]
     have hc := (l4.drop off).take len
     have hlen' : ((rc.toList.take cs.length |>.drop off).take len).length = len := by simp; omega
     have := bytesToString_ok (P := E.P) w (a := ad) (cap := cap) hc.1 h1 ?_
     ·rw [hlen'] at this; exact this
     ·rw [hlen']
      by_cases h0 : len = 0
      ·subst h0; simp [loadCells, loadCellsFrom]
      ·obtain ⟨rfl, _⟩ := had.resolve_left (by omega)
       have := loadCells_at (P := E.P) w (b := b0) (base := off) (rc := (rc.toList.take cs.length |>.drop off).take len) (fun i hi => by
        have hi' := hi
        rw [hlen'] at hi'
        have := l5 (off + i) (by simp; omega)
        simpa using this)
       rw [hlen'] at this
       exact this
 | slice t x lo hi mx =>
   simp only [hop] at hr
   split at hr
   case h_2 => simp at hr
   rename_i n e id off hu hx
   split at hr
   case h_2 => simp at hr
   rename_i cs sz hg hsz
   split at hr
   case isFalse => simp at hr
   rename_i hle
   obtain ⟨⟨l, k⟩, h1, h2⟩ := Option.map_eq_some_iff.1 hr
   subst h2
   have hav : VR M (.ptr id off) (ρ x) := hev _ _ hx
   generalize hρ : ρ x = ra at hav
   obtain ⟨b', rc, l1, l2, l3, l4, l5⟩ := a.row hg
   obtain ⟨i, hi1, hi2⟩ := szOf_info hsz
   cases hav with
   | @ptr _ _ b0 hl =>
     rw [hl] at l1; simp at l1; subst l1
     obtain ⟨c1, c2, c3⟩ := cutBounds_ok (P := E.P) (isSlice := false) w (Nat.le_refl n) (ev_bound hev lo) (ev_bound hev hi) h1
     have hbase : VR M (.hslice id off n (sz + 1)) (.slice (some ⟨b0, off, none⟩) n n) := .hslice _ hl (.inr ⟨rfl, rc.size, l2.bsz, by omega⟩) (Nat.le_refl n)
     have hcut := vr_hslice_cut hbase c1 c2
     refine ⟨_, _, rfl, ?_, hcut⟩
     simp only [execOp, hop, hρ]
     refine exec_v _ _ ?_
     simp only [Instr.sliceAt, Sem.run_bind, run_underlying hu, Result.andThen_ok, Instr.sureAddr, Sem.run_pure, Option.map_none, c3, run_sizeOf hi1, hi2, Option.map_some]
     split <;> rfl
 | lookup t x k ok =>
   simp only [hop] at hr
   split at hr
   case h_2 => simp at hr
   rename_i kt et m key hu hm hk
   split at hr
   case h_2 => simp at hr
   rename_i d es hd hes
   split at hr
   case isFalse => simp at hr
   rename_i hkf
   have hmv := ev_plain hev hm
   have hkv := ev_plain hev hk
   have hent : ∃ ents : Array MapEntry, MRs M es ents.toList /\ (Instr.lookup t (ρ x) (ρ k) ok).run E.P w = (lookCore kt et (ρ k) ok ents).run E.P w := by
    split at hes
    ·simp at hes; subst hes
     generalize ρ x = rx at hmv
     cases hmv
     exact ⟨#[], ⟨VRs.nil _, VRs.nil _⟩, by simp [Instr.lookup, lookCore, run_underlying hu]; rfl⟩
    ·rename_i id
     split at hes
     case h_2 => simp at hes
     rename_i es' hg
     simp at hes; subst hes
     generalize ρ x = rx at hmv
     cases hmv with
     | @map _ b hl =>
       obtain ⟨b', ents, clock, g1, g2, g3, _⟩ := a.maps id es' hg
       rw [hl] at g1; simp at g1; subst g1
       refine ⟨ents, g3, ?_⟩
       have hgo : (getObj b).run E.P w = .ok (.map ents clock) w := by simp [getObj, Sem.run, g2]
       simp [Instr.lookup, lookCore, run_underlying hu, hgo]
       rfl
    ·simp at hes
   obtain ⟨ents, hmr, hrun⟩ := hent
   have hck := fun emp => run_checkKey (M := M) (emp := emp) hd hkf hkv w 9999
   have hfin : ∀ {q : Option IV} {res : TV}, findIV d key es = some q -> (match q with
     | some v => some (TV.v (if ok then .tuple [v, .bool true] else v))
     | none => (zeroIV E.P et).map fun z => TV.v (if ok then .tuple [z, .bool false] else z)) = some res -> ∃ v r, res = .v v /\ (execOp ρ o).run E.P w = .ok (.value r) w /\ VR M v r := by
    intro q res hf hres
    have hfo := findIV_ok hkv 0 hmr hf
    cases q with
    | some v =>
      obtain ⟨j, rv, f1, f2⟩ := hfo
      simp at hres; subst hres
      refine ⟨_, if ok then .tuple #[rv, .bool true] else rv, rfl, ?_, ?_⟩
      ·simp only [execOp, hop]
       refine exec_v _ _ ?_
       rw [hrun]
       simp only [lookCore, Sem.run_bind, Result.andThen_ok, hck, Instr.findKey, run_underlying hd, f1, Sem.run_pure]
      ·cases ok
       ·simpa using f2
       ·simpa using vr_tuple_mk (VRs.cons f2 (VRs.cons (.bool true) (VRs.nil M)))
    | none =>
      obtain ⟨z, hz, hzz⟩ := Option.map_eq_some_iff.1 hres
      subst hzz
      obtain ⟨i, r, z1, z2, z3, z4⟩ := zeroIV_info (M := M) hz
      refine ⟨_, if ok then .tuple #[r, .bool false] else r, rfl, ?_, ?_⟩
      ·simp only [execOp, hop]
       refine exec_v _ _ ?_
       rw [hrun]
       have hfo' : Instr.findNow d (ρ k) ents.toList 0 = some none := hfo
       simp only [lookCore, Sem.run_bind, Result.andThen_ok, hck, Instr.findKey, run_underlying hd, hfo', Sem.run_pure, run_zeroValue w z1 z2]
      ·cases ok
       ·simpa using z3
       ·simpa using vr_tuple_mk (VRs.cons z3 (VRs.cons (.bool false) (VRs.nil M)))
   split at hr
   ·rename_i v hf
    exact hfin hf hr
   ·rename_i hf
    exact hfin hf hr
   ·simp at hr
 | call c =>
   obtain ⟨callee, args, argTypes⟩ := c
   simp only [hop] at hr
   cases callee with
   | value x => simp at hr
   | invoke x n => simp at hr
   | builtin b =>
     cases b
     case len =>
      simp only at hr
      split at hr
      case h_2 => simp at hr
      rename_i t id ht hx
      obtain ⟨y, hy, hyx⟩ := Option.bind_eq_some_iff.1 hx
      have hav := ev_plain hev hyx
      split at hr
      case h_2 => simp at hr
      rename_i kt et es hu hg
      simp at hr; subst hr
      generalize hρ : ρ y = ra at hav
      cases hav with
      | @map _ b hl =>
        obtain ⟨b', ents, clock, g1, g2, g3, _⟩ := a.maps id es hg
        rw [hl] at g1; simp at g1; subst g1
        refine ⟨_, goInt ents.size, rfl, ?_, ?_⟩
        ·simp only [execOp, hop, resolve, invoke, Sem.run_bind, Sem.run_pure, Result.andThen_ok, builtin]
         have : (Builtin.len_ argTypes o.type (args.map ρ)).run E.P w = .ok (goInt ents.size) w := by
          simp [Builtin.len_, ht, hy, hρ, run_underlying hu, getObj, Sem.run, g2]
         simp [this]
        ·have := g3.len
         simp at this
         rw [this]
         exact .int _ _
     all_goals simp at hr
 | _ => simp [hop] at hr
end
end
end Go.Pv
