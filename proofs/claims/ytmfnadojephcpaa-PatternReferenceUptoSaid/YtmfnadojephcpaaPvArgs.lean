import Derived.Test.YtmfnadojephcpaaPvBridge
import Derived.LaidLaws
set_option linter.unusedSimpArgs false
set_option linter.unusedVariables false
namespace Go.Pv
section
variable {H : Type}
def dl (g : DataW H -> Option (List IV)) : List (DataW H) -> Option (List IV)
 | [] => some []
 | d :: r => match g d, dl g r with
   | some x, some y => some (x ++ y)
   | _, _ => none
def dfs (P : Program) (g : TypeId -> DataW H -> Option (List IV)) : Nat -> List Field -> List (DataW H) -> Option (List IV)
 | off, [], [] => some []
 | off, f :: fs, d :: r => if f.offset = off then match g f.type d, dfs P g (off + P.cellsOf f.type) fs r with
   | some x, some y => if x.length = P.cellsOf f.type then some (x ++ y) else none
   | _, _ => none
   else none
 | _, _, _ => none
def dcells (P : Program) : Nat -> TypeId -> DataW H -> Option (List IV)
 | 0, _, _ => none
 | n + 1, t, d =>
   match P.underlying t, d with
   | some .bool, .lit (.bool b) => some [.bool b]
   | some (.int _), .lit (.int k z) => some [.int k z]
   | some .string, .lit (.string l) => some [.str l]
   | some (.pointer _), .nil => some [.nilptr]
   | some (.slice e), .nil => some [.vslice none 0 0 (P.cellsOf e) []]
   | some (.map ..), .nil => some [.nilmap]
   | some (.slice e), .slice elems _ => match dl (dcells P n e) elems with
     | some l => if 0 < P.cellsOf e /\ l.length = elems.length * P.cellsOf e then some [.vslice none 0 elems.length (P.cellsOf e) l] else none
     | none => none
   | some (.struct fs), .agg ds => match dfs P (dcells P n) 0 fs.toList ds with
     | some l => if l.length = P.cellsOf t then some l else none
     | none => none
   | some (.array m e), .agg ds => match dl (dcells P n e) ds with
     | some l => if l.length = P.cellsOf t /\ l.length = m * P.cellsOf e /\ ds.length = m /\ 0 < P.cellsOf e then some l else none
     | none => none
   | _, _ => none
end
theorem crs_one {M : Meta} {x : IV} {r : Value} (h : VR M x r) (hc : isCell x = true) : CRs M [x] [r] := CRs.cons h hc (CRs.nil M)
section
variable {H : Type} {enc : TypeId × Value -> H} {P : Program} {W : World} {sp : Nat -> Bool} {hd : Bool}
theorem mapM_cons' {α β : Type} {f : α -> Option β} {x : α} {l : List α} {r : List β} (h : (x :: l).mapM f = some r) : ∃ b r', f x = some b /\ l.mapM f = some r' /\ r = b :: r' := by
 simp only [List.mapM_cons, Option.bind_eq_bind, Option.bind_eq_some_iff, Option.pure_def, Option.some.injEq] at h
 obtain ⟨b, hb, r', hr, rfl⟩ := h
 exact ⟨b, r', hb, hr, rfl⟩
theorem mapM_nil' {α β : Type} {f : α -> Option β} {r : List β} (h : ([] : List α).mapM f = some r) : r = [] := by
 simpa [eq_comm] using h
theorem dl_cons {g : DataW H -> Option (List IV)} {d : DataW H} {r : List (DataW H)} {l : List IV} (h : dl g (d :: r) = some l) : ∃ x y, g d = some x /\ dl g r = some y /\ l = x ++ y := by
 simp only [dl] at h
 split at h
 ·rename_i x y h1 h2
  exact ⟨x, y, h1, h2, (Option.some.inj h).symm⟩
 ·cases h
theorem crs_elems {F : List Value -> Option (DataW H × List MemPlace)} {g : DataW H -> Option (List IV)} (hF : ∀ cs d ps xs, F cs = some (d, ps) -> g d = some xs -> CRs (M0 W) xs cs)
  {rd : Nat -> Option (List Value)} : ∀ (idx : List Nat) (els : List (DataW H × List MemPlace)) (l : List IV), idx.mapM (fun i => (rd i).bind F) = some els -> dl g (els.map (·.1)) = some l ->
  ∃ vss : List (List Value), idx.mapM rd = some vss /\ CRs (M0 W) l vss.flatten
 | [], els, l, h, hl => by
   obtain rfl := mapM_nil' h
   simp only [List.map_nil, dl, Option.some.injEq] at hl
   subst hl
   exact ⟨[], rfl, CRs.nil _⟩
 | i :: idx, els, l, h, hl => by
   obtain ⟨b, r', hb, hr, rfl⟩ := mapM_cons' h
   simp only [List.map_cons] at hl
   obtain ⟨x, y, hx, hy, rfl⟩ := dl_cons hl
   obtain ⟨vss, h1, h2⟩ := crs_elems hF idx r' y hr hy
   obtain ⟨cs, hcs, hF'⟩ := Option.bind_eq_some_iff.1 hb
   refine ⟨cs :: vss, by simp [hcs, h1], ?_⟩
   simp only [List.flatten_cons]
   exact (hF cs b.1 b.2 x hF' hx).append h2
theorem mapM_get' {α β : Type} {f : α -> Option β} : ∀ {l : List α} {r : List β}, l.mapM f = some r -> l.length = r.length /\ ∀ (i : Nat) (a : α), l[i]? = some a -> ∃ b, r[i]? = some b /\ f a = some b
 | [], r, h => by obtain rfl := mapM_nil' h; exact ⟨rfl, fun i a e => by simp at e⟩
 | x :: l, r, h => by
   obtain ⟨b, r', hb, hr, rfl⟩ := mapM_cons' h
   obtain ⟨h1, h2⟩ := mapM_get' hr
   refine ⟨by simp [h1], fun i a e => ?_⟩
   cases i with
   | zero => simp at e; subst e; exact ⟨b, rfl, hb⟩
   | succ i => exact h2 i a (by simpa using e)
theorem flatten_get {α : Type} {sz : Nat} : ∀ {vss : List (List α)}, (∀ v ∈ vss, v.length = sz) -> ∀ (i j : Nat) (v : List α), vss[i]? = some v -> j < sz -> vss.flatten[i * sz + j]? = v[j]?
 | [], _, i, j, v, h, _ => by simp at h
 | u :: vss, hl, 0, j, v, h, hj => by
   simp at h; subst h
   simp only [List.flatten_cons, Nat.zero_mul, Nat.zero_add]
   rw [List.getElem?_append_left (by rw [hl u (by simp)]; exact hj)]
 | u :: vss, hl, i + 1, j, v, h, hj => by
   simp only [List.flatten_cons]
   have hu := hl u (by simp)
   rw [List.getElem?_append_right (by rw [hu]; rw [Nat.succ_mul]; omega), hu]
   have : (i + 1) * sz + j - sz = i * sz + j := by rw [Nat.succ_mul]; omega
   rw [this]
   exact flatten_get (fun x hx => hl x (by simp [hx])) i j v (by simpa using h) hj
theorem flatten_len {α : Type} {sz : Nat} : ∀ {vss : List (List α)}, (∀ v ∈ vss, v.length = sz) -> vss.flatten.length = vss.length * sz
 | [], _ => by simp
 | u :: vss, hl => by
   simp only [List.flatten_cons, List.length_append, List.length_cons]
   rw [hl u (by simp), flatten_len (fun x hx => hl x (by simp [hx])), Nat.succ_mul, Nat.add_comm]
theorem cells_at {a : Addr} {sz n : Nat} {vss : List (List Value)} (hsz : 0 < sz) (h : (List.range n).mapM (fun i => W.cells? 0 (a.add (i * sz)) sz) = some vss) :
  vss.length = n /\ vss.flatten.length = n * sz /\ (0 < n -> a.spot = none) /\ ∀ i, i < n * sz -> ∃ v, vss.flatten[i]? = some v /\ W.cell? ⟨a.block, a.off + i, none⟩ = some v := by
 obtain ⟨h1, h2⟩ := mapM_get' h
 simp only [List.length_range] at h1
 have hlen : ∀ v ∈ vss, v.length = sz := by
  intro v hv
  obtain ⟨i, hi, rfl⟩ := List.getElem_of_mem hv
  obtain ⟨b, hb, hc⟩ := h2 i i (by simp [h1, hi])
  rw [List.getElem?_eq_getElem hi] at hb
  obtain rfl := Option.some.inj hb
  exact (World.cells?_some hc).2.1
 have hfl := flatten_len hlen
 rw [<- h1] at hfl
 have hcell : ∀ i j, i < n -> j < sz -> ∃ v, vss.flatten[i * sz + j]? = some v /\ W.cell? ((a.add (i * sz)).add j) = some v := by
  intro i j hi hj
  obtain ⟨b, hb, hc⟩ := h2 i i (by simp [hi])
  obtain ⟨_, q2, q3⟩ := World.cells?_some hc
  refine ⟨b[j]'(by omega), ?_, ?_⟩
  ·rw [flatten_get hlen i j b hb hj, List.getElem?_eq_getElem]
  ·rw [q3 j hj, List.getElem?_eq_getElem]
 have hspot : 0 < n -> a.spot = none := by
  intro hn
  obtain ⟨v, _, hv⟩ := hcell 0 0 hn hsz
  simp only [Nat.zero_mul, Addr.add, if_true] at hv
  cases hs : a.spot with
  | none => rfl
  | some s =>
    unfold World.cell? at hv
    rw [hs] at hv
    simp at hv
    split at hv <;> simp at hv
 refine ⟨h1.symm, hfl, hspot, fun i hi => ?_⟩
 have hn : 0 < n := by
  rcases Nat.eq_zero_or_pos n with e | e
  ·subst e; simp at hi
  ·exact e
 have hdiv : i / sz < n := (Nat.div_lt_iff_lt_mul hsz).2 hi
 obtain ⟨v, q1, q2⟩ := hcell (i / sz) (i % sz) hdiv (Nat.mod_lt _ hsz)
 have e : i / sz * sz + i % sz = i := by rw [Nat.mul_comm]; exact Nat.div_add_mod i sz
 rw [e] at q1
 refine ⟨v, q1, ?_⟩
 obtain ⟨b, o, s⟩ := a
 have : s = none := hspot hn
 subst this
 rw [add_none, add_none, Nat.add_assoc, e] at q2
 exact q2
theorem bsz_at {b o : Nat} {v : Value} (h : W.cell? ⟨b, o, none⟩ = some v) : ∃ n, (M0 W).bsz b = some n /\ o < n := by
 unfold World.cell? at h
 simp only [Option.isSome_none, Bool.false_eq_true, if_false] at h
 simp only [M0]
 split at h
 ·rename_i c q1 q2 hq
  rw [hq]
  exact ⟨c.size, rfl, (Array.getElem?_eq_some_iff.1 h).1⟩
 ·simp at h
theorem dfs_ok {g : TypeId -> DataW H -> Option (List IV)} {F : TypeId -> List Value -> Option (DataW H × List MemPlace)} (hF : ∀ t cs d ps xs, F t cs = some (d, ps) -> g t d = some xs -> CRs (M0 W) xs cs) {cs : List Value} :
  ∀ (fs : List Field) (off : Nat) (xs : List (DataW H × List MemPlace)) (l : List IV), fs.mapM (fun f => F f.type ((cs.drop f.offset).take (P.cellsOf f.type))) = some xs -> dfs P g off fs (xs.map (·.1)) = some l ->
  CRs (M0 W) l ((cs.drop off).take l.length)
 | [], off, xs, l, h, hl => by
   obtain rfl := mapM_nil' h
   simp only [List.map_nil, dfs, Option.some.injEq] at hl
   subst hl
   exact CRs.nil _
 | f :: fs, off, xs, l, h, hl => by
   obtain ⟨b, r', hb, hr, rfl⟩ := mapM_cons' h
   simp only [List.map_cons, dfs] at hl
   split at hl
   case isFalse => cases hl
   rename_i ho
   split at hl
   case h_2 => cases hl
   rename_i x y hx hy
   split at hl
   case isFalse => cases hl
   rename_i hlen
   obtain rfl := (Option.some.inj hl).symm
   have h1 := hF _ _ b.1 b.2 x hb hx
   have h2 := dfs_ok hF fs (off + P.cellsOf f.type) r' y hr hy
   rw [ho] at h1
   have e : (cs.drop off).take (x ++ y).length = (cs.drop off).take (P.cellsOf f.type) ++ (cs.drop (off + P.cellsOf f.type)).take y.length := by
    rw [List.length_append, hlen, List.take_add, List.drop_drop]
   rw [e]
   exact h1.append h2
theorem trod_crs (hsp : ∀ b, sp b = true) : ∀ (fuel n : Nat) (t : TypeId) (cs : List Value) (d : DataW H) (ps : List MemPlace) (xs : List IV), DataW.trod enc P W 0 sp hd fuel t cs = some (d, ps) -> dcells P n t d = some xs -> CRs (M0 W) xs cs
 | 0, _, _, _, _, _, _, h, _ => by simp [DataW.trod] at h
 | fuel + 1, 0, _, _, _, _, _, _, hx => by simp [dcells] at hx
 | fuel + 1, n + 1, t, vs, d, ps, xs, h, hx => by
   have ih := trod_crs hsp fuel n
   simp only [DataW.trod] at h
   simp only [dcells] at hx
   split at h
   ·rename_i hu
    obtain ⟨rfl, rfl⟩ := Prod.mk.inj (Option.some.inj h)
    simp only [hu, Option.some.injEq] at hx; subst hx
    exact crs_one (.bool _) rfl
   ·rename_i hu
    split at h
    case isFalse => cases h
    rename_i hk
    obtain ⟨rfl, rfl⟩ := Prod.mk.inj (Option.some.inj h)
    simp only [hu, Option.some.injEq] at hx; subst hx
    rw [hk.1]
    exact crs_one (.int _ _) rfl
   ·rename_i hu
    split at h
    case isFalse => cases h
    obtain ⟨rfl, rfl⟩ := Prod.mk.inj (Option.some.inj h)
    simp only [hu] at hx; cases hx
   ·rename_i hu
    split at h
    case isFalse => cases h
    obtain ⟨rfl, rfl⟩ := Prod.mk.inj (Option.some.inj h)
    simp only [hu, Option.some.injEq] at hx; subst hx
    exact crs_one (.str _) rfl
   ·rename_i hu
    obtain ⟨rfl, rfl⟩ := Prod.mk.inj (Option.some.inj h)
    simp only [hu, Option.some.injEq] at hx; subst hx
    exact crs_one .nilptr rfl
   ·rename_i hu
    obtain ⟨x, hx1, hx2⟩ := Option.map_eq_some_iff.1 h
    obtain ⟨rfl, rfl⟩ := Prod.mk.inj hx2
    simp only [hu] at hx; cases hx
   ·rename_i hu
    obtain ⟨rfl, rfl⟩ := Prod.mk.inj (Option.some.inj h)
    simp only [hu, Option.some.injEq] at hx; subst hx
    exact crs_one .vnil rfl
   ·rename_i e a len cap hu
    split at h
    case isFalse => cases h
    rename_i hcond
    obtain ⟨elems, he1, he2⟩ := Option.bind_eq_some_iff.1 h
    obtain ⟨rest, hr1, hr2⟩ := Option.map_eq_some_iff.1 he2
    obtain ⟨rfl, rfl⟩ := Prod.mk.inj hr2
    simp only [hu] at hx
    split at hx
    case h_2 => cases hx
    rename_i l hl
    split at hx
    case isFalse => cases hx
    rename_i hsz
    obtain rfl := (Option.some.inj hx).symm
    obtain ⟨vss, hv1, hv2⟩ := crs_elems (F := DataW.trod enc P W 0 sp hd fuel e) (g := dcells P n e) (fun cs d ps xs q1 q2 => ih e cs d ps xs q1 q2) _ elems l he1 hl
    obtain ⟨g1, g2, g3, g4⟩ := cells_at hsz.1 hv1
    have hlen : elems.length = len := by
     have := (mapM_get' he1).1
     simpa using this.symm
    rw [if_pos (hsp _)] at hr1
    have hroom : cap = 0 \/ (a.spot = none /\ ∃ m, (M0 W).bsz a.block = some m /\ a.off + cap * P.cellsOf e <= m) := by
     rcases Nat.eq_zero_or_pos cap with h0 | h0
     ·exact .inl h0
     right
     have hlast : ∀ i, i < cap -> ∃ vs, W.cells? 0 (a.add (i * P.cellsOf e)) (P.cellsOf e) = some vs := by
      intro i hi
      rcases Nat.lt_or_ge i len with q | q
      ·obtain ⟨b, _, hb⟩ := (mapM_get' he1).2 i i (by simp [q])
       obtain ⟨vs, hvs, _⟩ := Option.bind_eq_some_iff.1 hb
       exact ⟨vs, hvs⟩
      ·obtain ⟨b, _, hb⟩ := (mapM_get' hr1).2 (i - len) (i - len) (by rw [List.getElem?_range (by omega)])
       obtain ⟨vs, hvs, _⟩ := Option.bind_eq_some_iff.1 hb
       rw [show len + (i - len) = i by omega] at hvs
       exact ⟨vs, hvs⟩
     have hsp1 : a.spot = none := by
      obtain ⟨vs, hvs⟩ := hlast 0 h0
      obtain ⟨_, q2, q3⟩ := World.cells?_some hvs
      have := q3 0 hsz.1
      rw [List.getElem?_eq_getElem (by omega)] at this
      simp only [Nat.zero_mul, Addr.add, if_true] at this
      cases hs : a.spot with
      | none => rfl
      | some s =>
        unfold World.cell? at this
        rw [hs] at this
        simp at this
        split at this <;> simp at this
     refine ⟨hsp1, ?_⟩
     obtain ⟨vs, hvs⟩ := hlast (cap - 1) (by omega)
     obtain ⟨_, q2, q3⟩ := World.cells?_some hvs
     have := q3 (P.cellsOf e - 1) (by omega)
     rw [List.getElem?_eq_getElem (by omega)] at this
     obtain ⟨ab, ao, as⟩ := a
     simp only at hsp1
     subst hsp1
     rw [add_none, add_none] at this
     obtain ⟨m, hm1, hm2⟩ := bsz_at this
     refine ⟨m, hm1, ?_⟩
     have e1 : cap * P.cellsOf e = (cap - 1) * P.cellsOf e + P.cellsOf e := by
      rw [<- Nat.succ_mul]; congr 1; omega
     show ao + cap * P.cellsOf e <= m
     omega
    refine crs_one ?_ rfl
    rw [List.length_map, hlen]
    rw [List.length_map, hlen] at hsz
    refine .vslice a (fun i => vss.flatten.getD i undef) hsz.2 hcond.2.1 hroom ?_ ?_ hv2.2 (by simp) (fun _ => .inl rfl)
    ·intro i hi
     rw [hsz.2] at hi
     obtain ⟨v, p1, p2⟩ := g4 i hi
     simp only [M0, List.getD_eq_getElem?_getD, p1, p2, Option.getD_some]
    ·intro i hi
     have hi' : i < vss.flatten.length := by rw [<- hv2.len]; exact hi
     have := hv2.1.2 i hi hi'
     simp only [List.getD_eq_getElem?_getD, List.getElem?_eq_getElem hi', Option.getD_some]
     exact this
   ·rename_i cs' fs hu
    split at h
    case isFalse => cases h
    rename_i hlen
    obtain ⟨ys, hy1, hy2⟩ := Option.map_eq_some_iff.1 h
    obtain ⟨rfl, rfl⟩ := Prod.mk.inj hy2
    simp only [hu] at hx
    split at hx
    case h_2 => cases hx
    rename_i l hl
    split at hx
    case isFalse => cases hx
    rename_i hll
    obtain rfl := (Option.some.inj hx).symm
    have := dfs_ok (W := W) (F := fun t cs => DataW.trod enc P W 0 sp hd fuel t cs) (g := dcells P n) (fun t cs d ps xs q1 q2 => ih t cs d ps xs q1 q2) fs.toList 0 ys xs hy1 hl
    rw [List.drop_zero, hll, <- hlen, List.take_length] at this
    exact this
   ·rename_i vs xo cs' m e hu
    split at h
    case isFalse => cases h
    obtain ⟨ys, hy1, hy2⟩ := Option.map_eq_some_iff.1 h
    obtain ⟨rfl, rfl⟩ := Prod.mk.inj hy2
    simp only [hu] at hx
    split at hx
    case h_2 => cases hx
    rename_i l hl
    split at hx
    case isFalse => cases hx
    rename_i hc
    obtain rfl := (Option.some.inj hx).symm
    obtain ⟨vss, hv1, hv2⟩ := crs_elems (F := DataW.trod enc P W 0 sp hd fuel e) (g := dcells P n e) (rd := fun i => some ((vs.drop (i * P.cellsOf e)).take (P.cellsOf e))) (fun cs d ps xs q1 q2 => ih e cs d ps xs q1 q2) _ ys xs (by simpa using hy1) hl
    have hcs : vs.length = m * P.cellsOf e := by omega
    have hfl : vss.flatten = vs := by
     obtain ⟨g1, g2⟩ := mapM_get' hv1
     simp only [List.length_range] at g1
     have hvl : ∀ v ∈ vss, v.length = P.cellsOf e := by
      intro v hv
      obtain ⟨i, hi, rfl⟩ := List.getElem_of_mem hv
      obtain ⟨b, hb, hc'⟩ := g2 i i (by simp [g1, hi])
      rw [List.getElem?_eq_getElem hi] at hb
      obtain rfl := Option.some.inj hb
      have := Option.some.inj hc'
      rw [<- this]
      simp only [List.length_take, List.length_drop, hcs]
      have : i * P.cellsOf e + P.cellsOf e <= m * P.cellsOf e := by
       rw [<- Nat.succ_mul]; exact Nat.mul_le_mul_right _ (by omega)
      omega
     refine List.ext_getElem? (fun k => ?_)
     rcases Nat.lt_or_ge k (m * P.cellsOf e) with hk | hk
     ·have hd1 : k / P.cellsOf e < m := (Nat.div_lt_iff_lt_mul hc.2.2.2).2 hk
      obtain ⟨b, hb, hc'⟩ := g2 (k / P.cellsOf e) (k / P.cellsOf e) (by rw [List.getElem?_range hd1])
      have hmod := Nat.mod_lt k hc.2.2.2
      have e1 : k / P.cellsOf e * P.cellsOf e + k % P.cellsOf e = k := by rw [Nat.mul_comm]; exact Nat.div_add_mod k _
      have q := flatten_get hvl (k / P.cellsOf e) (k % P.cellsOf e) b hb hmod
      rw [e1] at q
      rw [q, <- Option.some.inj hc', List.getElem?_take, if_pos hmod, List.getElem?_drop, e1]
     ·rw [List.getElem?_eq_none (by rw [flatten_len hvl, <- g1]; exact hk), List.getElem?_eq_none (by omega)]
    rw [hfl] at hv2
    exact hv2
   ·rename_i hu
    obtain ⟨rfl, rfl⟩ := Prod.mk.inj (Option.some.inj h)
    simp only [hu] at hx; cases hx
   ·rename_i hu
    split at h
    ·obtain ⟨rfl, rfl⟩ := Prod.mk.inj (Option.some.inj h)
     simp only [hu] at hx; cases hx
    ·obtain ⟨y, _, hy2⟩ := Option.map_eq_some_iff.1 h
     obtain ⟨rfl, rfl⟩ := Prod.mk.inj hy2
     simp only [hu] at hx; cases hx
    ·cases h
   ·rename_i hu
    obtain ⟨rfl, rfl⟩ := Prod.mk.inj (Option.some.inj h)
    simp only [hu, Option.some.injEq] at hx; subst hx
    exact crs_one .nilmap rfl
   ·rename_i hu
    split at h
    case h_2 => cases h
    split at h
    case isFalse => cases h
    obtain ⟨y, _, hy2⟩ := Option.bind_eq_some_iff.1 h
    split at hy2
    case isFalse => cases hy2
    obtain ⟨rfl, rfl⟩ := Prod.mk.inj (Option.some.inj hy2)
    simp only [hu] at hx; cases hx
   all_goals first
    | (rename_i hu; obtain ⟨rfl, rfl⟩ := Prod.mk.inj (Option.some.inj h); simp only [hu] at hx; cases hx)
    | (rename_i hu; split at h; (obtain ⟨rfl, rfl⟩ := Prod.mk.inj (Option.some.inj h); simp only [hu] at hx; cases hx); cases h)
    | cases h
theorem laidMet_of {laid : List (String × DataW Unit)} (hf : laid.filter (fun x => x.2.handleName?.isSome) = []) (h : laidMetH P laid W) : laidMet P laid W := by
 unfold laidMetH at h
 rw [hf] at h
 exact h
theorem laid_vref {name : String} {d : DataW Unit} {rest : List (String × DataW Unit)} {g n : Nat} {t : TypeId} {xs : List IV} (hg : P.globalNamed name = some g) (ht : (P.globals[g]?).map (·.type) = some t)
  (h : laidMet P ((name, d) :: rest) W) (hx : dcells P n t d = some xs) : VR (M0 W) (.vref xs 0) (.pointer (some ⟨g, 0, none⟩)) := by
 obtain ⟨ps, ⟨g', t', cs, fuel, p, q, hg', ht', hvar, hd, _, _⟩, _⟩ := h
 obtain rfl := Option.some.inj (hg.symm.trans hg')
 obtain rfl := Option.some.inj (ht.symm.trans ht')
 have hc := trod_crs (fun _ => rfl) fuel n t cs.toList d p xs hd hx
 have hl : xs.length = cs.size := by simpa using hc.len
 have := VR.vref (M := M0 W) (cs := xs) (off := 0) (b := g) (base := 0) (fun i => cs.getD i undef) (fun i hi => by
  show W.cell? ⟨g, 0 + i, none⟩ = _
  rw [Nat.zero_add, World.var?_cell hg hvar i]
  rw [hl] at hi
  simp [hi]) (fun i hi => by
  have hi' : i < cs.toList.length := by rw [<- hc.len]; exact hi
  have := hc.1.2 i hi hi'
  have hi2 : i < cs.size := by simpa using hi'
  simpa [hi2] using this) hc.2
 simpa using this
def argIV (P : Program) (n : Nat) (t : TypeId) (d : DataW H) : Option IV :=
 match dcells P n t d with
 | some xs => match P.underlying t with
   | some (.struct _) => some (.agg xs)
   | some (.array ..) => some (.agg xs)
   | _ => match xs with
     | [x] => some x
     | _ => none
 | none => none
theorem cellOk_one {base : Nat} {t : TypeId} {v : Value} (h : Cell.okWide P W .any base t v) : v.cells = #[v] := by
 cases v <;> first
  | rfl
  | (exfalso; unfold Cell.okWide at h; split at h <;> (first | (rename_i h1 h2; cases h2) | (unfold Cell.ok at h; split at h <;> first | (rename_i h1 h2; cases h2) | exact h) ))
theorem arg_vr {base n : Nat} {t : TypeId} {v : Value} {d : DataW H} {p : List MemPlace} {x : IV} (hok : Value.okWide P W .any base t v) (h : DataW.Trod enc P W 0 (fun _ => true) true t v d p) (hx : argIV P n t d = some x) : VR (M0 W) x v := by
 obtain ⟨fuel, hf⟩ := h
 unfold argIV at hx
 split at hx
 case h_2 => cases hx
 rename_i xs hxs
 have hc := trod_crs (fun _ => rfl) fuel n t _ d p xs hf hxs
 unfold Value.okWide at hok
 split at hx
 ·rename_i fs hu
  simp only [hu] at hok
  obtain ⟨cs, rfl, h1, h2⟩ := hok
  obtain rfl := (Option.some.inj hx).symm
  simpa using vr_agg_mk (rc := cs.toList) hc
 ·rename_i m e hu
  simp only [hu] at hok
  obtain ⟨cs, rfl, h1, h2⟩ := hok
  obtain rfl := (Option.some.inj hx).symm
  simpa using vr_agg_mk (rc := cs.toList) hc
 ·rename_i hn1 hn2
  split at hx
  case h_2 => cases hx
  rename_i y
  obtain rfl := (Option.some.inj hx).symm
  split at hok
  ·rename_i fs hu; exact absurd hu (hn1 fs)
  ·rename_i m e hu; exact absurd hu (hn2 m e)
  ·rw [cellOk_one hok] at hc
   obtain ⟨r, rs, e, h1, _⟩ := hc.1.uncons
   simp at e
   rw [e.1]; exact h1
end
end Go.Pv
