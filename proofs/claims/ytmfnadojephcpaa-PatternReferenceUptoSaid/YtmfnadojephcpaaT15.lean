/-
  Patterns: an argument that is a tree of any size, as cells of values and as a tree.
  Conditions: none.
-/
import Derived.Test.YtmfnadojephcpaaPvShape
import Derived.Test.YtmfnadojephcpaaPvLaw
import Derived.Test.YtmfnadojephcpaaM15
set_option linter.unusedVariables false
set_option linter.unusedSimpArgs false
namespace Go.Pv
open Go.M15
/-- a type whose parts' types are all in a set -/
def stepTy (P : Program) (S : TypeId → Bool) (t : TypeId) : Bool := match P.underlying t with
    | some .bool => P.cellsOf t == 1
    | some (.int _) => P.cellsOf t == 1
    | some .string => P.cellsOf t == 1
    | some (.slice e) => P.cellsOf t == 1 && decide (0 < P.cellsOf e) && S e
    | some (.struct fs) => plainF P S 0 fs.toList == some (P.cellsOf t)
    | some (.array m e) => decide (0 < P.cellsOf e) && S e && (m * P.cellsOf e == P.cellsOf t)
    | _ => false
section
variable {H : Type} {enc : TypeId × Value → H} {P : Program} {W : World} {base : Nat} {sp : Nat → Bool} {hd : Bool} {S : TypeId → Bool}
theorem trod_okS (hS : ∀ t, S t = true → stepTy P S t = true) : ∀ (fuel : Nat) (t : TypeId) (cs : List Value) (d : DataW H) (ps : List MemPlace), S t = true → DataW.trod enc P W base sp hd fuel t cs = some (d, ps) →
    ∃ xs, dcells P fuel t d = some xs ∧ OkC P t xs ∧ xs.length = P.cellsOf t
  | 0, _, _, _, _, _, h => by simp [DataW.trod] at h
  | fuel + 1, t, vs, d, ps, hp0, h => by
    have ih := trod_okS hS fuel
    have hp := hS t hp0
    simp only [DataW.trod] at h
    simp only [stepTy] at hp
    split at h
    · rename_i hu
      obtain ⟨rfl, rfl⟩ := Prod.mk.inj (Option.some.inj h)
      simp only [hu, beq_iff_eq] at hp
      exact ⟨_, by simp only [dcells, hu]; rfl, .bool hu, hp.symm⟩
    · rename_i hu
      split at h
      case isFalse => cases h
      rename_i hk
      obtain ⟨rfl, rfl⟩ := Prod.mk.inj (Option.some.inj h)
      simp only [hu, beq_iff_eq] at hp
      exact ⟨[.int _ _], by simp only [dcells, hu], .int hu (has_wf hk.2), hp.symm⟩
    · rename_i hu
      simp only [hu] at hp
      cases hp
    · rename_i s hu
      split at h
      case isFalse => cases h
      rename_i hk
      obtain ⟨rfl, rfl⟩ := Prod.mk.inj (Option.some.inj h)
      simp only [hu, beq_iff_eq] at hp
      exact ⟨_, by simp only [dcells, hu]; rfl, .str hu (by simpa using hk), hp.symm⟩
    · rename_i hu
      simp only [hu] at hp
      cases hp
    · rename_i hu
      simp only [hu] at hp
      cases hp
    · rename_i hu
      obtain ⟨rfl, rfl⟩ := Prod.mk.inj (Option.some.inj h)
      simp only [hu, beq_iff_eq, Bool.and_eq_true] at hp
      exact ⟨[.vslice none 0 0 _ []], by simp only [dcells, hu], .slice hu (Nat.zero_le _) .nil, hp.1.1.symm⟩
    · rename_i e a len cap hu
      split at h
      case isFalse => cases h
      rename_i hcond
      obtain ⟨elems, h1, h2⟩ := Option.bind_eq_some_iff.1 h
      obtain ⟨rest, h3, h4⟩ := Option.map_eq_some_iff.1 h2
      obtain ⟨rfl, rfl⟩ := Prod.mk.inj h4
      simp only [hu, beq_iff_eq, Bool.and_eq_true, decide_eq_true_eq] at hp
      obtain ⟨zs, k1, k2, k3⟩ := dl_ok (P := P) (g := dcells P fuel e) (e := e) (sz := P.cellsOf e) (r := elems.map (·.1)) fun d hd' => by
        obtain ⟨x, hx, rfl⟩ := List.mem_map.1 hd'
        obtain ⟨i, _, hi⟩ := mapM_mem' h1 x hx
        obtain ⟨cs', _, hc⟩ := Option.bind_eq_some_iff.1 hi
        exact ih e cs' x.1 x.2 hp.2 hc
      have hl : elems.length = len := by
        have := (mapM_get' h1).1
        simpa using this.symm
      rw [List.length_map] at k2 k3
      refine ⟨[.vslice none 0 elems.length (P.cellsOf e) zs], ?_, .slice hu (by omega) k2, hp.1.1.symm⟩
      simp only [dcells, hu, k1, List.length_map]
      rw [if_pos ⟨hp.1.2, k3⟩]
    · rename_i cs' fs hu
      split at h
      case isFalse => cases h
      rename_i hlen
      obtain ⟨xs, h1, h2⟩ := Option.map_eq_some_iff.1 h
      obtain ⟨rfl, rfl⟩ := Prod.mk.inj h2
      simp only [hu, beq_iff_eq] at hp
      obtain ⟨zs, k1, k2, k3⟩ := dfs_ok' (g := dcells P fuel) (pl := S) (fun f d ps hpl hf => ih f.type _ d ps hpl hf) hp h1
      have k3 : zs.length = P.cellsOf t := by omega
      exact ⟨zs, by simp only [dcells, hu, k1, k3, if_true], .struct hu k2, k3⟩
    · rename_i vs xo cs' m e hu
      split at h
      case isFalse => cases h
      obtain ⟨xs, h1, h2⟩ := Option.map_eq_some_iff.1 h
      obtain ⟨rfl, rfl⟩ := Prod.mk.inj h2
      simp only [hu, beq_iff_eq, Bool.and_eq_true, decide_eq_true_eq] at hp
      obtain ⟨zs, k1, k2, k3⟩ := dl_ok (P := P) (g := dcells P fuel e) (e := e) (sz := P.cellsOf e) (r := xs.map (·.1)) fun d hd' => by
        obtain ⟨x, hx, rfl⟩ := List.mem_map.1 hd'
        obtain ⟨i, _, hi⟩ := mapM_mem' h1 x hx
        exact ih e _ x.1 x.2 hp.1.2 hi
      have hl : xs.length = m := by
        have := (mapM_get' h1).1
        simpa using this.symm
      rw [List.length_map, hl] at k2 k3
      refine ⟨zs, ?_, .array hu k2, k3.trans hp.2⟩
      simp only [dcells, hu, k1, List.length_map]
      rw [if_pos ⟨k3.trans hp.2, k3, hl, hp.1.1⟩]
    all_goals first
      | (rename_i hu; simp only [hu] at hp; cases hp; done)
      | (rename_i hu; split at h <;> simp only [hu] at hp <;> cases hp; done)
      | cases h
/-- an argument of a type of such a set, as a value of Pv -/
theorem arg_okS (hS : ∀ t, S t = true → stepTy P S t = true) {t : TypeId} {v : Value} {d : DataW H} {p : List MemPlace} (hp : S t = true) (hok : Value.okWide P W .any base t v) (h : DataW.Trod enc P W 0 (fun _ => true) true t v d p) :
    ∃ n xs, dcells P n t d = some xs ∧ OkC P t xs ∧ ∀ x, argOf P t xs = some x → VR (M0 W) x v := by
  obtain ⟨fuel, hf⟩ := id h
  obtain ⟨xs, h1, h2, _⟩ := trod_okS hS fuel t _ d p hp hf
  refine ⟨fuel, xs, h1, h2, fun x hx => arg_vr (n := fuel) hok h ?_⟩
  unfold argIV
  rw [h1]
  exact hx
theorem dfs_cons' {g : TypeId → DataW H → Option (List IV)} {off : Nat} {f : Field} {fs : List Field} {ds : List (DataW H)} {l : List IV} (h : dfs P g off (f :: fs) ds = some l) :
    ∃ d r x y o, ds = d :: r ∧ g f.type d = some x ∧ dfs P g o fs r = some y ∧ l = x ++ y := by
  cases ds with
  | nil => simp [dfs] at h
  | cons d r =>
    simp only [dfs] at h
    split at h
    case isFalse => cases h
    split at h
    case h_2 => cases h
    rename_i x y h1 h2
    split at h
    case isFalse => cases h
    exact ⟨d, r, x, y, _, rfl, h1, h2, (Option.some.inj h).symm⟩
theorem dfs_nil' {g : TypeId → DataW H → Option (List IV)} {off : Nat} {ds : List (DataW H)} {l : List IV} (h : dfs P g off [] ds = some l) : ds = [] ∧ l = [] := by
  cases ds with
  | nil => simpa [dfs, eq_comm] using h
  | cons d r => simp [dfs] at h
theorem dcells_int {n : Nat} {t : TypeId} {k : IntKind} {d : DataW H} {xs : List IV} (hu : P.underlying t = some (.int k)) (h : dcells P n t d = some xs) : ∃ k z, xs = [.int k z] := by
  cases n with
  | zero => simp [dcells] at h
  | succ n =>
    simp only [dcells, hu] at h
    split at h <;> first | (cases h; done) | (rename_i q; cases q; done) | skip
    all_goals first | exact ⟨_, _, (Option.some.inj h).symm⟩ | simp_all
theorem dcells_slice {n : Nat} {t e : TypeId} {d : DataW H} {xs : List IV} (hu : P.underlying t = some (.slice e)) (h : dcells P (n + 1) t d = some xs) :
    xs = [.vslice none 0 0 (P.cellsOf e) []] ∨ ∃ el sp l, d = .slice el sp ∧ dl (dcells P n e) el = some l ∧ xs = [.vslice none 0 el.length (P.cellsOf e) l] := by
  cases d with
  | nil =>
    simp only [dcells, hu] at h
    exact .inl (Option.some.inj h).symm
  | slice el sp =>
    simp only [dcells, hu] at h
    split at h
    case h_2 => cases h
    split at h
    case isFalse => cases h
    rename_i l h1 _
    exact .inr ⟨_, _, l, rfl, h1, (Option.some.inj h).symm⟩
  | _ => simp [dcells, hu] at h
theorem dcells_struct {n : Nat} {t : TypeId} {fs : Array Field} {d : DataW H} {xs : List IV} (hu : P.underlying t = some (.struct fs)) (h : dcells P (n + 1) t d = some xs) :
    ∃ ds, d = .agg ds ∧ dfs P (dcells P n) 0 fs.toList ds = some xs := by
  simp only [dcells, hu] at h
  split at h
  all_goals first
    | (rename_i q _; cases q; done)
    | (rename_i q; cases q; done)
    | skip
  · rename_i ds q
    cases q
    split at h
    case h_2 => cases h
    rename_i l h1
    split at h
    case isFalse => cases h
    obtain rfl := Option.some.inj h
    exact ⟨_, rfl, h1⟩
  all_goals cases h
/-- cells of a pattern's type are a tree's -/
theorem tree_of {bulk : DataW H → Nat} {bulks : List (DataW H) → Nat} (b1 : ∀ p, bulk (.agg p) = bulks p + 1) (b2 : ∀ e s, bulk (.slice e s) = bulks e + bulks s + 1) (b3 : ∀ d r, bulks (d :: r) = bulk d + bulks r)
    (bp : ∀ d, 1 ≤ bulk d) {t : TypeId} {fs : Array Field} {f0 f1 f2 f3 f4 : Field} (hu : P.underlying t = some (.struct fs)) (hf : fs.toList = [f0, f1, f2, f3, f4]) (u0 : P.underlying f0.type = some (.int .i64)) (u1 : P.underlying f1.type = some (.int .i64))
    (u2 : P.underlying f2.type = some (.int .i64)) (u3 : P.underlying f3.type = some (.int .i64)) (u4 : P.underlying f4.type = some (.slice t)) (hc : P.cellsOf t = 5) :
    ∀ (n : Nat) (d : DataW H) (xs : List IV), dcells P n t d = some xs → OkC P t xs → ∃ T : M15.T, xs = cT T ∧ T.ok ∧ 2 * T.num ≤ bulk d := by
  intro n
  induction n using Nat.strongRecOn with
  | _ n ih0 =>
  intro d xs h ho
  match n, ih0, h with
  | 0, _, h => simp [dcells] at h
  | 1, _, h =>
    obtain ⟨ds, rfl, h1⟩ := dcells_struct hu h
    rw [hf] at h1
    obtain ⟨d0, r0, x0, y0, o0, rfl, g0, h1, rfl⟩ := dfs_cons' h1
    simp [dcells] at g0
  | n + 2, ih0, h =>
    have ih := ih0 n (by omega)
    obtain ⟨ds, rfl, h1⟩ := dcells_struct hu h
    have o := OkC.struct_inv hu ho
    rw [hf] at h1 o
    obtain ⟨d0, r0, x0, y0, q0, rfl, g0, h2, e0⟩ := dfs_cons' h1
    obtain ⟨d1, r1, x1, y1, q1, rfl, g1, h3, rfl⟩ := dfs_cons' h2
    obtain ⟨d2, r2, x2, y2, q2, rfl, g2, h4, rfl⟩ := dfs_cons' h3
    obtain ⟨d3, r3, x3, y3, q3, rfl, g3, h5, rfl⟩ := dfs_cons' h4
    obtain ⟨d4, r4, x4, y4, q4, rfl, g4, h6, rfl⟩ := dfs_cons' h5
    obtain ⟨rfl, rfl⟩ := dfs_nil' h6
    obtain ⟨k0, z0, rfl⟩ := dcells_int u0 g0
    obtain ⟨k1, z1, rfl⟩ := dcells_int u1 g1
    obtain ⟨k2, z2, rfl⟩ := dcells_int u2 g2
    obtain ⟨k3, z3, rfl⟩ := dcells_int u3 g3
    obtain ⟨s0, w0, e1, a0, p0⟩ := OkF.cons_inv o
    obtain ⟨i0, rfl, j0⟩ := a0.int_inv u0
    obtain ⟨s1, w1, rfl, a1, p1⟩ := OkF.cons_inv p0
    obtain ⟨i1, rfl, j1⟩ := a1.int_inv u1
    obtain ⟨s2, w2, rfl, a2, p2⟩ := OkF.cons_inv p1
    obtain ⟨i2, rfl, j2⟩ := a2.int_inv u2
    obtain ⟨s3, w3, rfl, a3, p3⟩ := OkF.cons_inv p2
    obtain ⟨i3, rfl, j3⟩ := a3.int_inv u3
    obtain ⟨s4, w4, rfl, a4, p4⟩ := OkF.cons_inv p3
    obtain ⟨m, cs, rfl, jm, oe⟩ := a4.slice_inv u4
    obtain rfl := OkF.nil_inv p4
    have hlist : ∀ (el : List (DataW H)) (l : List IV), dl (dcells P n t) el = some l → OkE P t el.length l → ∃ ks : List M15.T, l = cTs ks ∧ el.length = ks.length ∧ oks ks ∧ 2 * nums ks ≤ bulks el := by
      intro el
      induction el with
      | nil =>
        intro l h1 _
        simp only [dl, Option.some.injEq] at h1
        exact ⟨[], h1.symm, rfl, trivial, by simp [nums]⟩
      | cons d r ihr =>
        intro l h1 h2
        obtain ⟨x, y, q1, q2, rfl⟩ := dl_cons h1
        generalize hxy : x ++ y = z at h2
        generalize hlen : (d :: r).length = len at h2
        cases h2 with
        | nil => simp at hlen
        | cons oc oe =>
          rename_i n' ys xs'
          have hr : r.length = n' := by simpa using hlen
          subst hr
          have l1 : x.length = 5 := by
            cases n with
            | zero => simp [dcells] at q1
            | succ n =>
              simp only [dcells, hu] at q1
              split at q1
              all_goals first
                | (rename_i q _; cases q; done)
                | (rename_i q; cases q; done)
                | skip
              · split at q1
                case h_2 => cases q1
                split at q1
                case isFalse => cases q1
                rename_i hl'
                obtain rfl := Option.some.inj q1
                rw [hl', hc]
              all_goals cases q1
          have l2 : ys.length = 5 := by
            have o := OkC.struct_inv hu oc
            rw [hf] at o
            obtain ⟨s0, w0, rfl, a0, p0⟩ := OkF.cons_inv o
            obtain ⟨i0, rfl, _⟩ := a0.int_inv u0
            obtain ⟨s1, w1, rfl, a1, p1⟩ := OkF.cons_inv p0
            obtain ⟨i1, rfl, _⟩ := a1.int_inv u1
            obtain ⟨s2, w2, rfl, a2, p2⟩ := OkF.cons_inv p1
            obtain ⟨i2, rfl, _⟩ := a2.int_inv u2
            obtain ⟨s3, w3, rfl, a3, p3⟩ := OkF.cons_inv p2
            obtain ⟨i3, rfl, _⟩ := a3.int_inv u3
            obtain ⟨s4, w4, rfl, a4, p4⟩ := OkF.cons_inv p3
            obtain ⟨m, cs, rfl, _, _⟩ := a4.slice_inv u4
            obtain rfl := OkF.nil_inv p4
            rfl
          obtain ⟨rfl, rfl⟩ := List.append_inj hxy (by rw [l1, l2])
          obtain ⟨T, rfl, t1, t2⟩ := ih d x q1 oc
          obtain ⟨ks, rfl, k1, k2, k3⟩ := ihr y q2 oe
          refine ⟨T :: ks, by simp [cTs], by simp [k1], ⟨t1, k2⟩, ?_⟩
          rw [b3, nums]
          omega
    have key : ∃ ks : List M15.T, m = ks.length ∧ cs = cTs ks ∧ oks ks ∧ 2 * nums ks + 1 ≤ bulk d4 ∧ k0 = .i64 ∧ k1 = .i64 ∧ k2 = .i64 ∧ k3 = .i64 ∧ z0 = i0 ∧ z1 = i1 ∧ z2 = i2 ∧ z3 = i3 := by
      rcases dcells_slice u4 g4 with rfl | ⟨el, sp', l, rfl, hl, rfl⟩
      · subst e0
        simp only [List.cons_append, List.nil_append, List.cons.injEq, IV.int.injEq, IV.vslice.injEq, and_true, true_and] at e1
        obtain ⟨⟨rfl, rfl⟩, ⟨rfl, rfl⟩, ⟨rfl, rfl⟩, ⟨rfl, rfl⟩, rfl, rfl⟩ := e1
        exact ⟨[], rfl, rfl, trivial, by have := bp d4; simpa [nums] using this, rfl, rfl, rfl, rfl, rfl, rfl, rfl, rfl⟩
      · subst e0
        simp only [List.cons_append, List.nil_append, List.cons.injEq, IV.int.injEq, IV.vslice.injEq, and_true, true_and] at e1
        obtain ⟨⟨rfl, rfl⟩, ⟨rfl, rfl⟩, ⟨rfl, rfl⟩, ⟨rfl, rfl⟩, rfl, rfl⟩ := e1
        obtain ⟨ks, e2, e3, e4, e5⟩ := hlist el _ hl oe
        exact ⟨ks, e3, e2, e4, by rw [b2]; omega, rfl, rfl, rfl, rfl, rfl, rfl, rfl, rfl⟩
    obtain ⟨ks, rfl, rfl, k4, k5, rfl, rfl, rfl, rfl, rfl, rfl, rfl, rfl⟩ := key
    refine ⟨.mk z0 z1 z2 z3 ks, ?_, ⟨⟨?_, ?_, ?_, ?_⟩, k4⟩, ?_⟩
    · rw [e1, hc]
      simp [cT]
    · exact has_i64 j0
    · exact has_i64 j1
    · exact has_i64 j2
    · exact has_i64 j3
    · rw [b1, b3, b3, b3, b3, b3, T.num]
      omega
end
end Go.Pv
