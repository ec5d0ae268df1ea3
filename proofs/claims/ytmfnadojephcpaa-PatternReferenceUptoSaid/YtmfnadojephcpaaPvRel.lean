import Derived.Test.YtmfnadojephcpaaPvDef
namespace Go.Pv
structure Meta where
 nid : Nat
 loc : Nat -> Option Nat
 tip : Nat -> Nat
 cur : Nat -> Nat × Nat
 im : Nat -> Nat -> Option Value
 bsz : Nat -> Option Nat
inductive VR (M : Meta) : IV -> Value -> Prop where
 | bool (b : Bool) : VR M (.bool b) (.bool b)
 | int (k : IntKind) (n : Int) : VR M (.int k n) (.int k n)
 | str (s : ByteArray) : VR M (.str s.data.toList) (.string s)
 | nilptr : VR M .nilptr (.pointer none)
 | ptr {id off b : Nat} (hl : M.loc id = some b) : VR M (.ptr id off) (.pointer (some ⟨b, off, none⟩))
 | vref {cs : List IV} {off b base : Nat} (rv : Nat -> Value) (him : ∀ i, i < cs.length -> M.im b (base + i) = some (rv i))
   (hv : ∀ (i : Nat) (h : i < cs.length), VR M cs[i] (rv i)) (hc : ∀ (i : Nat) (h : i < cs.length), isCell cs[i] = true) : VR M (.vref cs off) (.pointer (some ⟨b, base + off, none⟩))
 | nilslice : VR M .nilslice (.slice none 0 0)
 | vnil {sz : Nat} : VR M (.vslice none 0 0 sz []) (.slice none 0 0)
 | hslice {id off len sz cap b : Nat} (a : Addr) (hl : M.loc id = some b) (ha : cap = 0 \/ (a = ⟨b, off, none⟩ /\ ∃ n, M.bsz b = some n /\ off + cap * sz <= n)) (hlen : len <= cap) :
   VR M (.hslice id off len sz) (.slice (some a) len cap)
 | vslice {id : Option Nat} {e len sz cap : Nat} {cs : List IV} (a : Addr) (rv : Nat -> Value) (hn : cs.length = len * sz) (hlen : len <= cap)
   (ha : cap = 0 \/ (a.spot = none /\ ∃ n, M.bsz a.block = some n /\ a.off + cap * sz <= n))
   (him : ∀ i, i < cs.length -> M.im a.block (a.off + i) = some (rv i))
   (hv : ∀ (i : Nat) (h : i < cs.length), VR M cs[i] (rv i)) (hc : ∀ (i : Nat) (h : i < cs.length), isCell cs[i] = true)
   (ht : ∀ i, id = some i -> i < M.nid /\ cs.length <= e /\ e <= M.tip i /\ (e = M.tip i -> cap = 0 \/ M.cur i = (a.block, a.off + cs.length)))
   (hf : id = none -> e = 0 \/ (e = 1 /\ cap = len /\ 0 < sz)) :
   VR M (.vslice id e len sz cs) (.slice (some a) len cap)
 | nilmap : VR M .nilmap (.map none)
 | map {id b : Nat} (hl : M.loc id = some b) : VR M (.map id) (.map (some b))
 | func {fn : Fn} {xs ys : List IV} (rx ry : Array Value) (hx : xs.length = rx.size) (hy : ys.length = ry.size)
   (vx : ∀ (i : Nat) (h : i < xs.length) (h' : i < rx.size), VR M xs[i] rx[i]) (vy : ∀ (i : Nat) (h : i < ys.length) (h' : i < ry.size), VR M ys[i] ry[i]) : VR M (.func fn xs ys) (.func fn rx ry)
 | nilfunc : VR M .nilfunc .nilFunc
 | iface {t : TypeId} {x : IV} {v : Value} (h : VR M x v) : VR M (.iface t x) (.iface t v)
 | nilIface : VR M .nilIface .nilIface
 | agg {cs : List IV} (rc : Array Value) (hn : cs.length = rc.size) (hv : ∀ (i : Nat) (h : i < cs.length) (h' : i < rc.size), VR M cs[i] rc[i])
   (hc : ∀ (i : Nat) (h : i < cs.length), isCell cs[i] = true) : VR M (.agg cs) (.agg rc)
 | tuple {vs : List IV} (rc : Array Value) (hn : vs.length = rc.size) (hv : ∀ (i : Nat) (h : i < vs.length) (h' : i < rc.size), VR M vs[i] rc[i]) : VR M (.tuple vs) (.tuple rc)
structure Ext (M M' : Meta) : Prop where
 nid : M.nid <= M'.nid
 loc : ∀ id b, M.loc id = some b -> M'.loc id = some b
 im : ∀ b o v, M.im b o = some v -> M'.im b o = some v
 bsz : ∀ b n, M.bsz b = some n -> M'.bsz b = some n
 tip : ∀ i, i < M.nid -> M.tip i <= M'.tip i
 cur : ∀ i, i < M.nid -> M.tip i = M'.tip i -> M.cur i = M'.cur i
theorem Ext.refl (M : Meta) : Ext M M := ⟨Nat.le_refl _, fun _ _ h => h, fun _ _ _ h => h, fun _ _ h => h, fun _ _ => Nat.le_refl _, fun _ _ _ => rfl⟩
theorem Ext.trans {A B C : Meta} (h : Ext A B) (k : Ext B C) : Ext A C where
 nid := Nat.le_trans h.nid k.nid
 loc := fun id b e => k.loc _ _ (h.loc _ _ e)
 im := fun b o v e => k.im _ _ _ (h.im _ _ _ e)
 bsz := fun b n e => k.bsz _ _ (h.bsz _ _ e)
 tip := fun i hi => Nat.le_trans (h.tip i hi) (k.tip i (Nat.lt_of_lt_of_le hi h.nid))
 cur := fun i hi e => by
  have h1 := h.tip i hi
  have h2 := k.tip i (Nat.lt_of_lt_of_le hi h.nid)
  exact (h.cur i hi (by omega)).trans (k.cur i (Nat.lt_of_lt_of_le hi h.nid) (by omega))
theorem VR.mono {M M' : Meta} (hE : Ext M M') {x : IV} {r : Value} (h : VR M x r) : VR M' x r := by
 induction h with
 | bool b => exact .bool b
 | int k n => exact .int k n
 | str s => exact .str s
 | nilptr => exact .nilptr
 | ptr hl => exact .ptr (hE.loc _ _ hl)
 | vref rv him hv hc ih => exact .vref rv (fun i hi => hE.im _ _ _ (him i hi)) ih hc
 | nilslice => exact .nilslice
 | vnil => exact .vnil
 | hslice a hl ha hlen =>
   refine .hslice a (hE.loc _ _ hl) ?_ hlen
   rcases ha with ha | ⟨ha, n, hn, hle⟩
   ·exact .inl ha
   ·exact .inr ⟨ha, n, hE.bsz _ _ hn, hle⟩
 | vslice a rv hn hlen ha him hv hc ht hf ih =>
   refine .vslice a rv hn hlen ?_ (fun i hi => hE.im _ _ _ (him i hi)) ih hc ?_ hf
   ·rcases ha with ha | ⟨ha, n, hn, hle⟩
    ·exact .inl ha
    ·exact .inr ⟨ha, n, hE.bsz _ _ hn, hle⟩
   ·intro i hi
    obtain ⟨h1, h0, h2, h3⟩ := ht i hi
    have := hE.tip i h1
    refine ⟨Nat.lt_of_lt_of_le h1 hE.nid, h0, Nat.le_trans h2 this, fun he => ?_⟩
    have he' := h3 (by omega)
    rcases he' with he' | he'
    ·exact .inl he'
    ·exact .inr ((hE.cur i h1 (by omega)).symm.trans he')
 | nilmap => exact .nilmap
 | map hl => exact .map (hE.loc _ _ hl)
 | func rx ry hx hy vx vy ihx ihy => exact .func rx ry hx hy ihx ihy
 | nilfunc => exact .nilfunc
 | iface h ih => exact .iface ih
 | nilIface => exact .nilIface
 | agg rc hn hv hc ih => exact .agg rc hn ih hc
 | tuple rc hn hv ih => exact .tuple rc hn ih
theorem VR.isCell {M : Meta} {x : IV} {r : Value} (h : VR M x r) : isCell x = r.oneCell' := by
 cases h <;> rfl
def VRs (M : Meta) (xs : List IV) (rs : List Value) : Prop := xs.length = rs.length /\ ∀ (i : Nat) (h : i < xs.length) (h' : i < rs.length), VR M xs[i] rs[i]
def CRs (M : Meta) (xs : List IV) (rs : List Value) : Prop := VRs M xs rs /\ ∀ (i : Nat) (h : i < xs.length), isCell xs[i] = true
theorem VRs.mono {M M' : Meta} (hE : Ext M M') {xs : List IV} {rs : List Value} (h : VRs M xs rs) : VRs M' xs rs := ⟨h.1, fun i a b => (h.2 i a b).mono hE⟩
theorem CRs.mono {M M' : Meta} (hE : Ext M M') {xs : List IV} {rs : List Value} (h : CRs M xs rs) : CRs M' xs rs := ⟨h.1.mono hE, h.2⟩
theorem VRs.nil (M : Meta) : VRs M [] [] := ⟨rfl, fun i h => absurd h (by simp)⟩
theorem CRs.nil (M : Meta) : CRs M [] [] := ⟨VRs.nil M, fun i h => absurd h (by simp)⟩
theorem VRs.cons {M : Meta} {x : IV} {r : Value} {xs : List IV} {rs : List Value} (h : VR M x r) (hs : VRs M xs rs) : VRs M (x :: xs) (r :: rs) := by
 refine ⟨by simp [hs.1], fun i a b => ?_⟩
 cases i with
 | zero => exact h
 | succ i => exact hs.2 i (by simpa using a) (by simpa using b)
theorem CRs.cons {M : Meta} {x : IV} {r : Value} {xs : List IV} {rs : List Value} (h : VR M x r) (hc : Pv.isCell x = true) (hs : CRs M xs rs) : CRs M (x :: xs) (r :: rs) := by
 refine ⟨hs.1.cons h, fun i a => ?_⟩
 cases i with
 | zero => exact hc
 | succ i => exact hs.2 i (by simpa using a)
theorem VRs.uncons {M : Meta} {x : IV} {xs : List IV} {rs : List Value} (h : VRs M (x :: xs) rs) : ∃ r rs', rs = r :: rs' /\ VR M x r /\ VRs M xs rs' := by
 obtain ⟨hl, hv⟩ := h
 cases rs with
 | nil => simp at hl
 | cons r rs' =>
   refine ⟨r, rs', rfl, hv 0 (by simp) (by simp), by simpa using hl, fun i a b => ?_⟩
   exact hv (i + 1) (by simpa using a) (by simpa using b)
theorem VRs.get {M : Meta} {xs : List IV} {rs : List Value} (h : VRs M xs rs) {i : Nat} {x : IV} (hx : xs[i]? = some x) : ∃ r, rs[i]? = some r /\ VR M x r := by
 obtain ⟨hi, rfl⟩ := List.getElem?_eq_some_iff.1 hx
 have hi' : i < rs.length := h.1 ▸ hi
 exact ⟨rs[i], List.getElem?_eq_getElem hi', h.2 i hi hi'⟩
theorem CRs.get {M : Meta} {xs : List IV} {rs : List Value} (h : CRs M xs rs) {i : Nat} {x : IV} (hx : xs[i]? = some x) : ∃ r, rs[i]? = some r /\ VR M x r := h.1.get hx
theorem VRs.append {M : Meta} {xs ys : List IV} {rs qs : List Value} (h : VRs M xs rs) (k : VRs M ys qs) : VRs M (xs ++ ys) (rs ++ qs) := by
 induction xs generalizing rs with
 | nil => cases rs with
   | nil => simpa using k
   | cons r rs => simp [VRs] at h
 | cons x xs ih =>
   obtain ⟨r, rs', rfl, h1, h2⟩ := h.uncons
   exact (ih h2).cons h1
theorem CRs.append {M : Meta} {xs ys : List IV} {rs qs : List Value} (h : CRs M xs rs) (k : CRs M ys qs) : CRs M (xs ++ ys) (rs ++ qs) := by
 refine ⟨h.1.append k.1, fun i a => ?_⟩
 rw [List.getElem_append]
 split
 ·exact h.2 _ _
 ·exact k.2 _ _
theorem VRs.drop {M : Meta} {xs : List IV} {rs : List Value} (h : VRs M xs rs) (n : Nat) : VRs M (xs.drop n) (rs.drop n) := by
 refine ⟨by simp [h.1], fun i a b => ?_⟩
 simp only [List.length_drop] at a b
 simp only [List.getElem_drop]
 exact h.2 _ _ _
theorem VRs.take {M : Meta} {xs : List IV} {rs : List Value} (h : VRs M xs rs) (n : Nat) : VRs M (xs.take n) (rs.take n) := by
 refine ⟨by simp [h.1], fun i a b => ?_⟩
 simp only [List.length_take] at a b
 simp only [List.getElem_take]
 exact h.2 _ _ _
theorem CRs.drop {M : Meta} {xs : List IV} {rs : List Value} (h : CRs M xs rs) (n : Nat) : CRs M (xs.drop n) (rs.drop n) :=
 ⟨h.1.drop n, fun i a => by simp only [List.length_drop] at a; simp only [List.getElem_drop]; exact h.2 _ _⟩
theorem CRs.take {M : Meta} {xs : List IV} {rs : List Value} (h : CRs M xs rs) (n : Nat) : CRs M (xs.take n) (rs.take n) :=
 ⟨h.1.take n, fun i a => by simp only [List.length_take] at a; simp only [List.getElem_take]; exact h.2 _ _⟩
theorem CRs.len {M : Meta} {xs : List IV} {rs : List Value} (h : CRs M xs rs) : xs.length = rs.length := h.1.1
theorem CRs.one {M : Meta} {xs : List IV} {rs : List Value} (h : CRs M xs rs) : ∀ v ∈ rs, v.oneCell' = true := by
 intro v hv
 obtain ⟨i, hi, rfl⟩ := List.getElem_of_mem hv
 have hi' : i < xs.length := h.len ▸ hi
 rw [<- (h.1.2 i hi' hi).isCell]
 exact h.2 i hi'
theorem vr_agg {M : Meta} {cs : List IV} {r : Value} (h : VR M (.agg cs) r) : ∃ rc : List Value, r = .agg rc.toArray /\ CRs M cs rc := by
 cases h with
 | agg rc hn hv hc => exact ⟨rc.toList, by simp, ⟨by simpa using hn, fun i a b => by simpa using hv i a (by simpa using b)⟩, hc⟩
theorem vr_agg_mk {M : Meta} {cs : List IV} {rc : List Value} (h : CRs M cs rc) : VR M (.agg cs) (.agg rc.toArray) :=
 .agg rc.toArray (by simpa using h.len) (fun i a b => by simpa using h.1.2 i a (by simpa using b)) h.2
theorem vr_tuple {M : Meta} {cs : List IV} {r : Value} (h : VR M (.tuple cs) r) : ∃ rc : List Value, r = .tuple rc.toArray /\ VRs M cs rc := by
 cases h with
 | tuple rc hn hv => exact ⟨rc.toList, by simp, by simpa using hn, fun i a b => by simpa using hv i a (by simpa using b)⟩
theorem vr_tuple_mk {M : Meta} {cs : List IV} {rc : List Value} (h : VRs M cs rc) : VR M (.tuple cs) (.tuple rc.toArray) :=
 .tuple rc.toArray (by simpa using h.1) (fun i a b => by simpa using h.2 i a (by simpa using b))
theorem vr_func {M : Meta} {fn : Fn} {xs ys : List IV} {r : Value} (h : VR M (.func fn xs ys) r) : ∃ rx ry : List Value, r = .func fn rx.toArray ry.toArray /\ VRs M xs rx /\ VRs M ys ry := by
 cases h with
 | func rx ry hx hy vx vy => exact ⟨rx.toList, ry.toList, by simp, ⟨by simpa using hx, fun i a b => by simpa using vx i a (by simpa using b)⟩, ⟨by simpa using hy, fun i a b => by simpa using vy i a (by simpa using b)⟩⟩
theorem vr_func_mk {M : Meta} {fn : Fn} {xs ys : List IV} {rx ry : List Value} (hx : VRs M xs rx) (hy : VRs M ys ry) : VR M (.func fn xs ys) (.func fn rx.toArray ry.toArray) :=
 .func rx.toArray ry.toArray (by simpa using hx.1) (by simpa using hy.1) (fun i a b => by simpa using hx.2 i a (by simpa using b)) (fun i a b => by simpa using hy.2 i a (by simpa using b))
theorem vr_str {M : Meta} (s : List UInt8) : VR M (.str s) (.string ⟨s.toArray⟩) := VR.str ⟨s.toArray⟩
theorem vr_cells {M : Meta} {x : IV} {r : Value} (h : VR M x r) (ht : notTup x = true) : CRs M (cellsOf x) r.cells.toList := by
 cases h with
 | @agg cs rc hn hv hc => exact (show CRs M cs rc.toList from ⟨⟨by simpa using hn, fun i a b => by simpa using hv i a (by simpa using b)⟩, hc⟩)
 | tuple => simp [notTup] at ht
 | _ => exact CRs.cons (by first | exact .bool _ | exact .int _ _ | exact .str _ | exact .nilptr | exact .ptr ‹_› | exact .nilslice | exact .vnil | exact .nilmap | exact .map ‹_› | exact .nilfunc | exact .nilIface | exact .iface ‹_› | (constructor <;> assumption)) rfl (CRs.nil M)
theorem leafIV_ok {M : Meta} {v : Value} {x : IV} (h : leafIV v = some x) : VR M x v /\ isCell x = true := by
 unfold leafIV at h
 split at h <;> simp at h <;> subst h
 ·exact ⟨.bool _, rfl⟩
 ·exact ⟨.int _ _, rfl⟩
 ·exact ⟨.str _, rfl⟩
 ·exact ⟨.nilptr, rfl⟩
 ·exact ⟨.nilslice, rfl⟩
 ·exact ⟨.nilmap, rfl⟩
 ·exact ⟨.nilfunc, rfl⟩
 ·exact ⟨.nilIface, rfl⟩
theorem leavesIV_ok {M : Meta} : ∀ {l : List Value} {xs : List IV}, leavesIV l = some xs -> CRs M xs l
 | [], xs, h => by simp [leavesIV] at h; subst h; exact CRs.nil M
 | v :: r, xs, h => by
   unfold leavesIV at h
   split at h
   ·rename_i x xs' h1 h2
    simp at h; subst h
    exact CRs.cons (leafIV_ok (M := M) h1).1 (leafIV_ok (M := M) h1).2 (leavesIV_ok h2)
   ·simp at h
theorem ofValue_ok {M : Meta} {v : Value} {x : IV} (h : ofValue v = some x) : VR M x v /\ notTup x = true := by
 unfold ofValue at h
 split at h
 ·rename_i cs
  obtain ⟨xs, h1, h2⟩ := Option.map_eq_some_iff.1 h
  subst h2
  exact ⟨by simpa using vr_agg_mk (leavesIV_ok (M := M) h1), rfl⟩
 ·have := leafIV_ok (M := M) h
  refine ⟨this.1, ?_⟩
  have h2 := this.2
  cases x <;> first | rfl | simp [isCell] at h2
theorem nrmC_ok {M : Meta} {ck : CK} {v : IV} {r : Value} (h : VR M v r) : VR M (nrmC ck v) r := by
 unfold nrmC
 split
 ·cases h; exact .vnil
 ·cases h with
  | vslice a rv hn hlen ha him hv hc ht hf => exact .vslice a rv hn hlen ha him hv hc (by simp) (fun _ => .inl rfl)
  | vnil => exact .vnil
 ·exact h
theorem nrmC_cell (ck : CK) (v : IV) : isCell (nrmC ck v) = isCell v := by
 unfold nrmC
 split <;> rfl
theorem nrmC_notTup (ck : CK) (v : IV) : notTup (nrmC ck v) = notTup v := by
 unfold nrmC
 split <;> rfl
theorem nrmL_ok {M : Meta} : ∀ {l : List CK} {vs : List IV} {rs : List Value}, VRs M vs rs -> VRs M (nrmL l vs) rs
 | [], vs, rs, h => by simpa [nrmL] using h
 | ck :: r, [], rs, h => by simpa [nrmL] using h
 | ck :: r, v :: vs, rs, h => by
   obtain ⟨q, qs, rfl, h1, h2⟩ := h.uncons
   exact VRs.cons (nrmC_ok h1) (nrmL_ok h2)
theorem nrmL_len : ∀ (l : List CK) (vs : List IV), (nrmL l vs).length = vs.length
 | [], vs => rfl
 | ck :: r, [] => rfl
 | ck :: r, v :: vs => by simp [nrmL, nrmL_len r vs]
theorem nrmL_cell : ∀ (l : List CK) (vs : List IV), (∀ (i : Nat) (h : i < vs.length), isCell vs[i] = true) -> ∀ (i : Nat) (h : i < (nrmL l vs).length), isCell (nrmL l vs)[i] = true
 | [], vs, h, i, hi => h i hi
 | ck :: r, [], h, i, hi => by simp [nrmL] at hi
 | ck :: r, v :: vs, h, i, hi => by
   cases i with
   | zero => simp only [nrmL, List.getElem_cons_zero, nrmC_cell]; exact h 0 (by simp)
   | succ i => simp only [nrmL, List.getElem_cons_succ]; exact nrmL_cell r vs (fun j hj => by have := h (j + 1) (by simpa using hj); simpa using this) i (by simpa [nrmL] using hi)
theorem nrmL_crs {M : Meta} {l : List CK} {vs : List IV} {rs : List Value} (h : CRs M vs rs) : CRs M (nrmL l vs) rs := ⟨nrmL_ok h.1, nrmL_cell l vs h.2⟩
theorem nrmV_ok {M : Meta} {P : Program} {t : TypeId} {v : IV} {r : Value} (h : VR M v r) : VR M (nrmV P t v) r := by
 unfold nrmV
 split
 ·obtain ⟨rc, rfl, hc⟩ := vr_agg h
  exact vr_agg_mk (nrmL_crs hc)
 ·exact nrmC_ok h
theorem nrmVs_ok {M : Meta} {P : Program} : ∀ {ts : List TypeId} {vs : List IV} {rs : List Value}, VRs M vs rs -> VRs M (nrmVs P ts vs) rs
 | [], vs, rs, h => by simpa [nrmVs] using h
 | t :: ts, [], rs, h => by simpa [nrmVs] using h
 | t :: ts, v :: vs, rs, h => by
   obtain ⟨q, qs, rfl, h1, h2⟩ := h.uncons
   exact VRs.cons (nrmV_ok h1) (nrmVs_ok h2)
def Meta.pure (M : Meta) : Meta := { M with nid := 0, loc := fun _ => none }
theorem pureL_get : ∀ {cs : List IV}, pureL cs = true -> ∀ (i : Nat) (h : i < cs.length), pureB cs[i] = true
 | [], _, i, hi => by simp at hi
 | v :: r, h, i, hi => by
   simp only [pureL, Bool.and_eq_true] at h
   cases i with
   | zero => exact h.1
   | succ i => exact pureL_get h.2 i (by simpa using hi)
theorem pure_ok {M M' : Meta} (him : ∀ b o v, M.im b o = some v -> M'.im b o = some v) (hbs : ∀ b n, M.bsz b = some n -> M'.bsz b = some n) {x : IV} {r : Value} (h : VR M x r) : pureB x = true -> VR M' x r := by
 induction h with
 | bool b => intro _; exact .bool b
 | int k n => intro _; exact .int k n
 | str s => intro _; exact .str s
 | nilptr => intro _; exact .nilptr
 | ptr hl => intro hp; simp [pureB] at hp
 | vref rv hi hv hc ih => intro hp; simp only [pureB] at hp; exact .vref rv (fun i h => him _ _ _ (hi i h)) (fun i h => ih i h (pureL_get hp i h)) hc
 | nilslice => intro _; exact .nilslice
 | vnil => intro _; exact .vnil
 | hslice a hl ha hlen => intro hp; simp [pureB] at hp
 | @vslice id e len sz cap cs a rv hn hlen ha hi hv hc ht hf ih =>
   intro hp
   cases id with
   | some id => simp [pureB] at hp
   | none =>
     simp only [pureB] at hp
     exact .vslice a rv hn hlen (ha.imp id fun ⟨h1, n, h2, h3⟩ => ⟨h1, n, hbs _ _ h2, h3⟩) (fun i h => him _ _ _ (hi i h)) (fun i h => ih i h (pureL_get hp i h)) hc (by simp) hf
 | nilmap => intro _; exact .nilmap
 | map hl => intro hp; simp [pureB] at hp
 | func rx ry hx hy vx vy ihx ihy =>
   intro hp
   simp only [pureB, Bool.and_eq_true] at hp
   exact .func rx ry hx hy (fun i a b => ihx i a b (pureL_get hp.1 i a)) (fun i a b => ihy i a b (pureL_get hp.2 i a))
 | nilfunc => intro _; exact .nilfunc
 | iface h ih => intro hp; simp only [pureB] at hp; exact .iface (ih hp)
 | nilIface => intro _; exact .nilIface
 | agg rc hn hv hc ih => intro hp; simp only [pureB] at hp; exact .agg rc hn (fun i a b => ih i a b (pureL_get hp i a)) hc
 | tuple rc hn hv ih => intro hp; simp only [pureB] at hp; exact .tuple rc hn (fun i a b => ih i a b (pureL_get hp i a))
theorem pures_ok {M M' : Meta} (him : ∀ b o v, M.im b o = some v -> M'.im b o = some v) (hbs : ∀ b n, M.bsz b = some n -> M'.bsz b = some n) {xs : List IV} {rs : List Value} (h : VRs M xs rs) (hp : pureL xs = true) : VRs M' xs rs :=
 ⟨h.1, fun i a b => pure_ok him hbs (h.2 i a b) (pureL_get hp i a)⟩
end Go.Pv
