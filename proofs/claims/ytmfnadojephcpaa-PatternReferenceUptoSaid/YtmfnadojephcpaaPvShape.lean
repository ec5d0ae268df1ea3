import Derived.Test.YtmfnadojephcpaaPvArgs
set_option linter.unusedVariables false
set_option linter.unusedSimpArgs false
namespace Go.Pv
mutual
inductive OkC (P : Program) : TypeId -> List IV -> Prop
 | bool {t b} : P.underlying t = some .bool -> OkC P t [.bool b]
 | int {t k z} : P.underlying t = some (.int k) -> k.has z -> OkC P t [.int k z]
 | str {t} {l : List UInt8} : P.underlying t = some .string -> l.length <= maxLen -> OkC P t [.str l]
 | slice {t e n cs} : P.underlying t = some (.slice e) -> n <= maxLen -> OkE P e n cs -> OkC P t [.vslice none 0 n (P.cellsOf e) cs]
 | struct {t fs xs} : P.underlying t = some (.struct fs) -> OkF P fs.toList xs -> OkC P t xs
 | array {t m e xs} : P.underlying t = some (.array m e) -> OkE P e m xs -> OkC P t xs
inductive OkE (P : Program) : TypeId -> Nat -> List IV -> Prop
 | nil {e} : OkE P e 0 []
 | cons {e n ys xs} : OkC P e ys -> OkE P e n xs -> OkE P e (n + 1) (ys ++ xs)
inductive OkF (P : Program) : List Field -> List IV -> Prop
 | nil : OkF P [] []
 | cons {f fs ys xs} : OkC P f.type ys -> OkF P fs xs -> OkF P (f :: fs) (ys ++ xs)
end
def plainF (P : Program) (g : TypeId -> Bool) : Nat -> List Field -> Option Nat
 | off, [] => some off
 | off, f :: fs => if f.offset = off /\ g f.type = true then plainF P g (off + P.cellsOf f.type) fs else none
def plainTy (P : Program) : Nat -> TypeId -> Bool
 | 0, _ => false
 | n + 1, t => match P.underlying t with
   | some .bool => P.cellsOf t == 1
   | some (.int _) => P.cellsOf t == 1
   | some .string => P.cellsOf t == 1
   | some (.slice e) => P.cellsOf t == 1 && decide (0 < P.cellsOf e) && plainTy P n e
   | some (.struct fs) => plainF P (plainTy P n) 0 fs.toList == some (P.cellsOf t)
   | some (.array m e) => decide (0 < P.cellsOf e) && plainTy P n e && (m * P.cellsOf e == P.cellsOf t)
   | _ => false
section
variable {H : Type} {enc : TypeId × Value -> H} {P : Program} {W : World} {base : Nat} {sp : Nat -> Bool} {hd : Bool}
theorem mapM_mem' {α β : Type} {f : α -> Option β} : ∀ {l : List α} {r : List β}, l.mapM f = some r -> ∀ y ∈ r, ∃ x ∈ l, f x = some y
 | [], r, h, y, hy => by rw [mapM_nil' h] at hy; cases hy
 | a :: l, r, h, y, hy => by
   obtain ⟨b, r', h1, h2, rfl⟩ := mapM_cons' h
   rcases List.mem_cons.1 hy with rfl | hy
   ·exact ⟨a, List.mem_cons_self, h1⟩
   ·obtain ⟨x, hx, e⟩ := mapM_mem' h2 y hy
    exact ⟨x, List.mem_cons_of_mem _ hx, e⟩
theorem dl_ok {g : DataW H -> Option (List IV)} {e : TypeId} {sz : Nat} : ∀ {r : List (DataW H)}, (∀ d ∈ r, ∃ ys, g d = some ys /\ OkC P e ys /\ ys.length = sz) ->
  ∃ zs, dl g r = some zs /\ OkE P e r.length zs /\ zs.length = r.length * sz
 | [], _ => ⟨[], rfl, .nil, by simp⟩
 | d :: r, h => by
   obtain ⟨ys, h1, h2, h3⟩ := h d List.mem_cons_self
   obtain ⟨zs, k1, k2, k3⟩ := dl_ok (r := r) fun x hx => h x (List.mem_cons_of_mem _ hx)
   refine ⟨ys ++ zs, by simp [dl, h1, k1], .cons h2 k2, ?_⟩
   rw [List.length_append, h3, k3, List.length_cons, Nat.succ_mul, Nat.add_comm]
theorem dfs_ok' {g : TypeId -> DataW H -> Option (List IV)} {pl : TypeId -> Bool} {F : Field -> Option (DataW H × List MemPlace)}
  (hF : ∀ f d ps, pl f.type = true -> F f = some (d, ps) -> ∃ ys, g f.type d = some ys /\ OkC P f.type ys /\ ys.length = P.cellsOf f.type) :
  ∀ {fs : List Field} {off tot : Nat} {xs : List (DataW H × List MemPlace)}, plainF P pl off fs = some tot -> fs.mapM F = some xs -> ∃ zs, dfs P g off fs (xs.map (·.1)) = some zs /\ OkF P fs zs /\ off + zs.length = tot
 | [], off, tot, xs, h, hm => by
   rw [mapM_nil' hm]
   exact ⟨[], rfl, .nil, by simpa [plainF] using h⟩
 | f :: fs, off, tot, xs, h, hm => by
   obtain ⟨b, r', h1, h2, rfl⟩ := mapM_cons' hm
   unfold plainF at h
   split at h
   case isFalse => cases h
   rename_i hc
   obtain ⟨ys, k1, k2, k3⟩ := hF f b.1 b.2 hc.2 h1
   obtain ⟨zs, m1, m2, m3⟩ := dfs_ok' hF h h2
   refine ⟨ys ++ zs, ?_, .cons k2 m2, ?_⟩
   ·simp only [List.map_cons, dfs, if_pos hc.1, k1, m1, k3, if_true]
   ·rw [List.length_append]; omega
theorem has_wf {k : IntKind} {n : Int} (h : (Lit.int k n).wf = true) : k.has n := by
 simpa [Lit.wf, IntKind.has] using h
theorem trod_ok : ∀ (fuel n : Nat) (t : TypeId) (cs : List Value) (d : DataW H) (ps : List MemPlace), plainTy P n t = true -> DataW.trod enc P W base sp hd fuel t cs = some (d, ps) ->
  ∃ xs, dcells P n t d = some xs /\ OkC P t xs /\ xs.length = P.cellsOf t
 | 0, _, _, _, _, _, _, h => by simp [DataW.trod] at h
 | fuel + 1, 0, _, _, _, _, hp, _ => by simp [plainTy] at hp
 | fuel + 1, n + 1, t, vs, d, ps, hp, h => by
   have ih := trod_ok fuel n
   simp only [DataW.trod] at h
   simp only [plainTy] at hp
   split at h
   ·rename_i hu
    obtain ⟨rfl, rfl⟩ := Prod.mk.inj (Option.some.inj h)
    simp only [hu, beq_iff_eq] at hp
    exact ⟨_, by simp only [dcells, hu]; rfl, .bool hu, hp.symm⟩
   ·rename_i hu
    split at h
    case isFalse => cases h
    rename_i hk
    obtain ⟨rfl, rfl⟩ := Prod.mk.inj (Option.some.inj h)
    simp only [hu, beq_iff_eq] at hp
    exact ⟨[.int _ _], by simp only [dcells, hu], .int hu (has_wf hk.2), hp.symm⟩
   ·rename_i hu
    simp only [hu] at hp
    cases hp
   ·rename_i s hu
    split at h
    case isFalse => cases h
    rename_i hk
    obtain ⟨rfl, rfl⟩ := Prod.mk.inj (Option.some.inj h)
    simp only [hu, beq_iff_eq] at hp
    exact ⟨_, by simp only [dcells, hu]; rfl, .str hu (by simpa using hk), hp.symm⟩
   ·rename_i hu
    simp only [hu] at hp
    cases hp
   ·rename_i hu
    simp only [hu] at hp
    cases hp
   ·rename_i hu
    obtain ⟨rfl, rfl⟩ := Prod.mk.inj (Option.some.inj h)
    simp only [hu, beq_iff_eq, Bool.and_eq_true] at hp
    exact ⟨[.vslice none 0 0 _ []], by simp only [dcells, hu], .slice hu (Nat.zero_le _) .nil, hp.1.1.symm⟩
   ·rename_i e a len cap hu
    split at h
    case isFalse => cases h
    rename_i hcond
    obtain ⟨elems, h1, h2⟩ := Option.bind_eq_some_iff.1 h
    obtain ⟨rest, h3, h4⟩ := Option.map_eq_some_iff.1 h2
    obtain ⟨rfl, rfl⟩ := Prod.mk.inj h4
    simp only [hu, beq_iff_eq, Bool.and_eq_true, decide_eq_true_eq] at hp
    obtain ⟨zs, k1, k2, k3⟩ := dl_ok (P := P) (g := dcells P n e) (e := e) (sz := P.cellsOf e) (r := elems.map (·.1)) fun d hd' => by
     obtain ⟨x, hx, rfl⟩ := List.mem_map.1 hd'
     obtain ⟨i, _, hi⟩ := mapM_mem' h1 x hx
     obtain ⟨cs', _, hc⟩ := Option.bind_eq_some_iff.1 hi
     exact ih e cs' x.1 x.2 hp.2 hc
    have hl : elems.length = len := by
     have := (mapM_get' h1).1
     simpa using this.symm
    rw [List.length_map] at k2 k3
    refine ⟨[.vslice none 0 elems.length (P.cellsOf e) zs], ?_, .slice hu (by omega) k2, hp.1.1.symm⟩
    simp only [dcells, hu, k1, List.length_map]
    rw [if_pos ⟨hp.1.2, k3⟩]
   ·rename_i cs' fs hu
    split at h
    case isFalse => cases h
    rename_i hlen
    obtain ⟨xs, h1, h2⟩ := Option.map_eq_some_iff.1 h
    obtain ⟨rfl, rfl⟩ := Prod.mk.inj h2
    simp only [hu, beq_iff_eq] at hp
    obtain ⟨zs, k1, k2, k3⟩ := dfs_ok' (g := dcells P n) (pl := plainTy P n) (fun f d ps hpl hf => ih f.type _ d ps hpl hf) hp h1
    have k3 : zs.length = P.cellsOf t := by omega
    exact ⟨zs, by simp only [dcells, hu, k1, k3, if_true], .struct hu k2, k3⟩
   ·rename_i vs xo cs' m e hu
    split at h
    case isFalse => cases h
    obtain ⟨xs, h1, h2⟩ := Option.map_eq_some_iff.1 h
    obtain ⟨rfl, rfl⟩ := Prod.mk.inj h2
    simp only [hu, beq_iff_eq, Bool.and_eq_true, decide_eq_true_eq] at hp
    obtain ⟨zs, k1, k2, k3⟩ := dl_ok (P := P) (g := dcells P n e) (e := e) (sz := P.cellsOf e) (r := xs.map (·.1)) fun d hd' => by
     obtain ⟨x, hx, rfl⟩ := List.mem_map.1 hd'
     obtain ⟨i, _, hi⟩ := mapM_mem' h1 x hx
     exact ih e _ x.1 x.2 hp.1.2 hi
    have hl : xs.length = m := by
     have := (mapM_get' h1).1
     simpa using this.symm
    rw [List.length_map, hl] at k2 k3
    refine ⟨zs, ?_, .array hu k2, k3.trans hp.2⟩
    simp only [dcells, hu, k1, List.length_map]
    rw [if_pos ⟨k3.trans hp.2, k3, hl, hp.1.1⟩]
   all_goals first
    | (rename_i hu; simp only [hu] at hp; cases hp; done)
    | (rename_i hu; split at h <;> simp only [hu] at hp <;> cases hp; done)
    | cases h
def argOf (P : Program) (t : TypeId) (xs : List IV) : Option IV := match P.underlying t with
 | some (.struct _) => some (.agg xs)
 | some (.array ..) => some (.agg xs)
 | _ => match xs with
   | [x] => some x
   | _ => none
theorem arg_ok {t : TypeId} {v : Value} {d : DataW H} {p : List MemPlace} (n : Nat) (hp : plainTy P n t = true) (hok : Value.okWide P W .any base t v) (h : DataW.Trod enc P W 0 (fun _ => true) true t v d p) :
  ∃ xs, OkC P t xs /\ ∀ x, argOf P t xs = some x -> VR (M0 W) x v := by
 obtain ⟨fuel, hf⟩ := id h
 obtain ⟨xs, h1, h2, _⟩ := trod_ok fuel n t _ d p hp hf
 refine ⟨xs, h2, fun x hx => arg_vr (n := n) hok h ?_⟩
 unfold argIV
 rw [h1]
 exact hx
theorem arg_ok2 {t : TypeId} {v : Value} {d : DataW H} {p : List MemPlace} (n : Nat) (hp : plainTy P n t = true) (hok : Value.okWide P W .any base t v) (h : DataW.Trod enc P W 0 (fun _ => true) true t v d p) :
  ∃ xs, OkC P t xs /\ (∀ x, argOf P t xs = some x -> VR (M0 W) x v) /\
   ∀ e len sz cs, P.underlying t = some (.slice e) -> xs = [.vslice none 0 len sz cs] -> len = 0 \/ ∃ elems spare, d = .slice elems spare /\ len = elems.length := by
 obtain ⟨fuel, hf⟩ := id h
 obtain ⟨xs, h1, h2, _⟩ := trod_ok fuel n t _ d p hp hf
 refine ⟨xs, h2, fun x hx => arg_vr (n := n) hok h ?_, fun e len sz cs hu hx => ?_⟩
 ·unfold argIV
  rw [h1]
  exact hx
 ·subst hx
  cases n with
  | zero => simp [dcells] at h1
  | succ n =>
  simp only [dcells, hu] at h1
  split at h1
  all_goals first
   | (rename_i q _; cases q; done)
   | (rename_i q; cases q; done)
   | skip
  ·simp only [Option.some.injEq, List.cons.injEq, IV.vslice.injEq, and_true, true_and] at h1
   exact .inl h1.1.symm
  ·rename_i elems spare q
   cases q
   split at h1
   ·split at h1
    ·simp only [Option.some.injEq, List.cons.injEq, IV.vslice.injEq, and_true, true_and] at h1
     exact .inr ⟨_, _, rfl, h1.1.symm⟩
    ·cases h1
   ·cases h1
  all_goals cases h1
end
section
variable {P : Program} {t e : TypeId} {xs : List IV}
theorem OkC.bool_inv (hu : P.underlying t = some .bool) (h : OkC P t xs) : ∃ b, xs = [.bool b] := by
 cases h with
 | bool => exact ⟨_, rfl⟩
 | _ => simp_all
theorem OkC.int_inv {k : IntKind} (hu : P.underlying t = some (.int k)) (h : OkC P t xs) : ∃ z, xs = [.int k z] /\ k.has z := by
 cases h with
 | int h1 h2 => rw [h1] at hu; cases hu; exact ⟨_, rfl, h2⟩
 | _ => simp_all
theorem OkC.str_inv (hu : P.underlying t = some .string) (h : OkC P t xs) : ∃ l, xs = [.str l] /\ l.length <= maxLen := by
 cases h with
 | str h1 h2 => exact ⟨_, rfl, h2⟩
 | _ => simp_all
theorem OkC.slice_inv (hu : P.underlying t = some (.slice e)) (h : OkC P t xs) : ∃ n cs, xs = [.vslice none 0 n (P.cellsOf e) cs] /\ n <= maxLen /\ OkE P e n cs := by
 cases h with
 | slice h1 h2 h3 => rw [h1] at hu; cases hu; exact ⟨_, _, rfl, h2, h3⟩
 | _ => simp_all
theorem OkC.struct_inv {fs : Array Field} (hu : P.underlying t = some (.struct fs)) (h : OkC P t xs) : OkF P fs.toList xs := by
 cases h with
 | struct h1 h2 => rw [h1] at hu; cases hu; exact h2
 | _ => simp_all
theorem OkC.array_inv {m : Nat} (hu : P.underlying t = some (.array m e)) (h : OkC P t xs) : OkE P e m xs := by
 cases h with
 | array h1 h2 => rw [h1] at hu; cases hu; exact h2
 | _ => simp_all
theorem OkF.cons_inv {f : Field} {fs : List Field} (h : OkF P (f :: fs) xs) : ∃ ys zs, xs = ys ++ zs /\ OkC P f.type ys /\ OkF P fs zs := by
 cases h with
 | cons h1 h2 => exact ⟨_, _, rfl, h1, h2⟩
theorem OkF.nil_inv (h : OkF P [] xs) : xs = [] := by cases h; rfl
theorem OkE.list {α : Type} {c : α -> List IV} {good : α -> Prop} (hc : ∀ ys, OkC P e ys -> ∃ a, ys = c a /\ good a) : ∀ {n : Nat} {cs : List IV}, OkE P e n cs -> ∃ l : List α, n = l.length /\ cs = l.flatMap c /\ ∀ a ∈ l, good a
 | _, _, .nil => ⟨[], rfl, rfl, by simp⟩
 | _, _, .cons h1 h2 => by
   obtain ⟨a, rfl, ha⟩ := hc _ h1
   obtain ⟨l, rfl, rfl, hl⟩ := OkE.list hc h2
   exact ⟨a :: l, rfl, rfl, by simpa using ⟨ha, hl⟩⟩
theorem OkE.ints {k : IntKind} {n : Nat} {cs : List IV} (hu : P.underlying e = some (.int k)) (h : OkE P e n cs) : ∃ l : List Int, n = l.length /\ cs = l.map (IV.int k) /\ ∀ a ∈ l, k.has a := by
 obtain ⟨l, h1, h2, h3⟩ := h.list (c := fun a => [IV.int k a]) (good := k.has) fun ys hy => OkC.int_inv hu hy
 refine ⟨l, h1, ?_, h3⟩
 rw [h2]
 clear h1 h2 h3
 induction l with
 | nil => rfl
 | cons a l ih => simpa using ih
end
end Go.Pv
