/-
  Terms: what reading a node's text gives, in plain Lean.
  Conditions: none.
-/
import Derived.Test.YthoehkkoaegeoaaR10
set_option linter.unusedVariables false
namespace Go.M10
open Go.M15 Go.Pv Go.M29
/-- the operands are read one after the other -/
def rkA (f : List Nd → Int → List Nd × Int) : List Nd → List Int → List Nd × List Int
  | y, [] => (y, [])
  | y, k :: r => ((rkA f (f y k).1 r).1, (f y k).2 :: (rkA f (f y k).1 r).2)
/-- a node is read -/
def rdA (l : List Nd) : Nat → List Nd → Int → List Nd × Int
  | 0, y, _ => (y, 0)
  | d + 1, y, i => putA (rkA (rdA l d) y (l.getD i.toNat default).ks).1 ⟨(l.getD i.toNat default).op, (l.getD i.toNat default).im, (rkA (rdA l d) y (l.getD i.toNat default).ks).2⟩
theorem rkA_snoc (f : List Nd → Int → List Nd × Int) (k : Int) : ∀ (a : List Int) (y : List Nd), rkA f y (a ++ [k]) = ((f (rkA f y a).1 k).1, (rkA f y a).2 ++ [(f (rkA f y a).1 k).2])
  | [], y => rfl
  | x :: a, y => by
    rw [List.cons_append, rkA, rkA_snoc f k a]
    rfl
theorem rkA_take {f : List Nd → Int → List Nd × Int} {ks : List Int} {y : List Nd} {j : Nat} (h : j < ks.length) : rkA f y (ks.take (j + 1)) = ((f (rkA f y (ks.take j)).1 ks[j]).1, (rkA f y (ks.take j)).2 ++ [(f (rkA f y (ks.take j)).1 ks[j]).2]) := by
  rw [List.take_succ_eq_append_getElem h, rkA_snoc]
theorem len_le_of_nodup {α : Type} [DecidableEq α] : ∀ (a b : List α), a.Nodup → (∀ x ∈ a, x ∈ b) → a.length ≤ b.length
  | [], b, _, _ => Nat.zero_le _
  | x :: a, b, hd, hs => by
    have hx := hs x List.mem_cons_self
    rw [List.nodup_cons] at hd
    have := len_le_of_nodup a (b.erase x) hd.2 fun z hz => (List.mem_erase_of_ne (fun e => hd.1 (by rw [← e]; exact hz))).2 (hs z (List.mem_cons_of_mem _ hz))
    rw [List.length_erase_of_mem hx] at this
    have : 0 < b.length := List.length_pos_of_mem hx
    rw [List.length_cons]
    omega
/-- what is read so far -/
structure RG (l y : List Nd) : Prop where
  ok : ∀ n ∈ y, okY n ∧ n.ks.length ≤ 3 ∧ (n.op ≠ 3 ∧ n.op ≠ 25 ∧ n.op ≠ 30 ∧ n.op ≠ 31)
  nd : y.Nodup
  wf : WFN y
  src : ∀ q, q < y.length → ∃ i, i < l.length ∧ T10 y q = T10 l i
  sl : l.length ≤ 1000000
theorem wf_tl {x : List Nd} (h : WFN x) (h3 : ∀ n ∈ x, n.op ≠ 3) : ∀ n ∈ x, Tl n := by
  intro n hn
  obtain ⟨j, hj, rfl⟩ := List.mem_iff_getElem.1 hn
  obtain ⟨_, h1, h2, h4⟩ := wf_node h (List.getElem?_eq_getElem hj)
  have h5 := h3 _ hn
  have ho : 1 ≤ x[j].op ∧ x[j].op ≤ 31 := by
    unfold arOk at h1
    rw [decide_eq_true_eq] at h1
    omega
  refine ⟨?_, fun e => ?_, fun e => absurd e h5, fun hl hi => ?_, fun hl => ?_⟩
  · by_cases hl : x[j].op = 1 ∨ x[j].op = 2 ∨ x[j].op = 3 ∨ x[j].op = 26
    · exact .inl (decide_eq_true hl)
    · exact .inr (tok_iff.2 (by omega))
  · exact vImm0 h4 (by omega) (by rw [e]; decide)
  · unfold lf at hl
    unfold hImm at hi
    rw [decide_eq_false_iff_not] at hl hi
    refine vImm0 h4 (by omega) ?_
    unfold mxI
    rw [if_neg (by omega), if_neg (by omega), if_neg (by omega), if_neg (by omega), if_neg (by omega), if_neg (by omega)]
    decide
  · have : ar x[j].op = 0 := by
      have := lf_cases hl
      unfold ar
      rw [if_pos (by omega)]
    exact List.eq_nil_of_length_eq_zero (by omega)
theorem RG.back {l y : List Nd} (g : RG l y) : Back y := wf_back g.wf
theorem RG.tl {l y : List Nd} (g : RG l y) : ∀ n ∈ y, Tl n := wf_tl g.wf fun n hn => (g.ok n hn).2.2.1
theorem RG.len {l y : List Nd} (g : RG l y) : y.length ≤ l.length := by
  have h1 : ((List.range y.length).map (T10 y)).length = y.length := by simp
  have h2 : ((List.range l.length).map (T10 l)).length = l.length := by simp
  rw [← h1, ← h2]
  refine len_le_of_nodup _ _ ?_ fun x hx => ?_
  · rw [List.Nodup, List.pairwise_map]
    refine List.Pairwise.imp_of_mem (R := fun a b => a ≠ b) (fun ha hb hne e => ?_) List.nodup_range
    rw [List.mem_range] at ha hb
    exact hne (T10_ne g.back g.tl g.nd ha hb e)
  · obtain ⟨q, hq, rfl⟩ := List.mem_map.1 hx
    obtain ⟨i, hi, e⟩ := g.src q (List.mem_range.1 hq)
    exact List.mem_map.2 ⟨i, List.mem_range.2 hi, e.symm⟩
theorem RG.lb {l y : List Nd} (g : RG l y) : y.length ≤ 1000000 := Nat.le_trans g.len g.sl
theorem RG.nil {l : List Nd} (h : l.length ≤ 1000000) : RG l [] := ⟨fun n h => (List.not_mem_nil h).elim, List.nodup_nil, fun s h => (List.not_mem_nil h).elim, fun q h => (Nat.not_lt_zero _ h).elim, h⟩
theorem RG.of {i : Nat} {l : List Nd} (h : NW i l) (hi : i ≤ 1000) : RG l l := by
  refine ⟨fun n hn => ?_, h.2.2.2.2.1, h.2.2.1, fun q hq => ⟨q, hq, rfl⟩, by have := h.1.2; omega⟩
  obtain ⟨j, hj, rfl⟩ := List.mem_iff_getElem.1 hn
  obtain ⟨_, h1, h2, h4⟩ := wf_node h.2.2.1 (List.getElem?_eq_getElem hj)
  have h5 := h.2.1 _ hn
  unfold arOk at h1
  rw [decide_eq_true_eq] at h1
  exact ⟨⟨by omega, h5.1⟩, h5.2.1, h.2.2.2.2.2 _ hn, h5.2.2⟩
/-- a node's sort out of its operands' sorts -/
theorem sort_at {y : List Nd} (h : WFN y) {j : Nat} {n : Nd} (hj : y[j]? = some n) : (sortsA y).getD j 0 = nsort n.op n.im (n.ks.map fun q => (sortsA y).getD q.toNat 0) := by
  have hk := (wf_node h hj).1
  rw [sortsA_at hj]
  unfold sstep
  rw [if_pos (List.all_eq_true.2 hk)]
  congr 1
  refine List.map_congr_left fun q hq => ?_
  have := hk q hq
  unfold kidOk at this
  simp only [Bool.and_eq_true, decide_eq_true_eq] at this
  exact (pre_getD (sortsA_pre (List.take_prefix j y)) (by omega)).symm
theorem fidx_get {n : Nd} : ∀ {l : List Nd} {i j : Nat}, fidx n l i = some j → l[j - i]? = some n
  | [], i, j, h => by cases h
  | x :: r, i, j, h => by
    unfold fidx at h
    split at h
    · rename_i e
      cases h
      rw [Nat.sub_self, e]
      rfl
    · have h1 := fidx_lt h
      have h2 := fidx_get h
      rw [show j - i = (j - (i + 1)) + 1 by omega]
      exact h2
theorem fidx_no {n : Nd} : ∀ {l : List Nd} {i : Nat}, fidx n l i = none → n ∉ l
  | [], i, h => List.not_mem_nil
  | x :: r, i, h => by
    unfold fidx at h
    split at h
    · cases h
    · rename_i e
      rw [List.mem_cons, not_or]
      exact ⟨e, fidx_no h⟩
theorem ndT_map {a b : List (List UInt8)} {op im : Int} {p q : List Int} (h : p.map (fun k => a.getD k.toNat []) = q.map (fun k => b.getD k.toNat [])) : ndT a ⟨op, im, p⟩ = ndT b ⟨op, im, q⟩ := by
  have e : ∀ (o : List (List UInt8)) (ks : List Int), kdT o ks = (ks.map fun k => o.getD k.toNat []).flatMap fun t => 32 :: t := fun o ks => by
    rw [List.flatMap_map]
    rfl
  unfold ndT
  simp only [e, h]
/-- what reading the operands gives -/
structure RK (l y : List Nd) (ks : List Int) (p : List Nd × List Int) : Prop where
  g : RG l p.1
  pre : y <+: p.1
  b : ∀ q ∈ p.2, 0 ≤ q ∧ q < p.1.length
  t : p.2.map (fun q => T10 p.1 q.toNat) = ks.map fun k => T10 l k.toNat
  s : p.2.map (fun q => (sortsA p.1).getD q.toNat 0) = ks.map fun k => (sortsA l).getD k.toNat 0
  lst : p.1 = y ∨ ((p.1.length : Nat) : Int) - 1 ∈ p.2
  par : ∀ q : Nat, y.length ≤ q → q < p.1.length → (q : Int) ∈ p.2 ∨ ∃ n ∈ p.1, (q : Int) ∈ n.ks
structure RR (l y : List Nd) (i : Int) (p : List Nd × Int) : Prop where
  g : RG l p.1
  pre : y <+: p.1
  b : 0 ≤ p.2 ∧ p.2 < p.1.length
  t : T10 p.1 p.2.toNat = T10 l i.toNat
  s : (sortsA p.1).getD p.2.toNat 0 = (sortsA l).getD i.toNat 0
  lst : p.1 = y ∨ p.2 = ((p.1.length : Nat) : Int) - 1
  par : ∀ q : Nat, y.length ≤ q → q < p.1.length → (q : Int) = p.2 ∨ ∃ n ∈ p.1, (q : Int) ∈ n.ks
theorem RK.nil {l y : List Nd} (g : RG l y) : RK l y [] (y, []) := ⟨g, List.prefix_refl _, fun q h => (List.not_mem_nil h).elim, rfl, rfl, .inl rfl, fun q h1 h2 => by dsimp only at h2; omega⟩
theorem RK.snoc {l y : List Nd} {ks : List Int} {k : Int} {p : List Nd × List Int} {r : List Nd × Int} (a : RK l y ks p) (c : RR l p.1 k r) : RK l y (ks ++ [k]) (r.1, p.2 ++ [r.2]) := by
  have hl := c.pre.length_le
  refine ⟨c.g, a.pre.trans c.pre, ?_, ?_, ?_, ?_, ?_⟩
  · intro q hq
    rcases List.mem_append.1 hq with hq | hq
    · have := a.b q hq
      exact ⟨this.1, by show q < (r.1.length : Int); omega⟩
    · rw [List.mem_singleton.1 hq]
      exact c.b
  · show (p.2 ++ [r.2]).map (fun q => T10 r.1 q.toNat) = _
    rw [List.map_append, List.map_append, ← a.t]
    congr 1
    · refine List.map_congr_left fun q hq => T10_pre c.pre (by have := a.b q hq; omega)
    · simp only [List.map_cons, List.map_nil]
      rw [c.t]
  · show (p.2 ++ [r.2]).map (fun q => (sortsA r.1).getD q.toNat 0) = _
    rw [List.map_append, List.map_append, ← a.s]
    congr 1
    · refine List.map_congr_left fun q hq => pre_getD (sortsA_pre c.pre) (by have := a.b q hq; rw [sortsA_len]; omega)
    · simp only [List.map_cons, List.map_nil]
      rw [c.s]
  · show r.1 = y ∨ ((r.1.length : Nat) : Int) - 1 ∈ p.2 ++ [r.2]
    rcases c.lst with e | e
    · rcases a.lst with e2 | e2
      · exact .inl (e.trans e2)
      · right
        rw [e]
        exact List.mem_append_left _ e2
    · right
      rw [← e]
      exact List.mem_append_right _ (List.mem_singleton.2 rfl)
  · intro q h1 h2
    show (q : Int) ∈ p.2 ++ [r.2] ∨ ∃ n ∈ r.1, (q : Int) ∈ n.ks
    rcases Nat.lt_or_ge q p.1.length with h3 | h3
    · rcases a.par q h1 h3 with e | ⟨n, e1, e2⟩
      · exact .inl (List.mem_append_left _ e)
      · exact .inr ⟨n, c.pre.subset e1, e2⟩
    · rcases c.par q h3 h2 with e | e
      · left
        rw [e]
        exact List.mem_append_right _ (List.mem_singleton.2 rfl)
      · exact .inr e
/-- a node is put behind its operands -/
theorem RR.put {l y : List Nd} (gl : RG l l) {i : Nat} (hi : i < l.length) {p : List Nd × List Int} (a : RK l y l[i].ks p) : RR l y i (putA p.1 ⟨l[i].op, l[i].im, p.2⟩) := by
  have hn := gl.ok _ (List.getElem_mem hi)
  have hle : p.2.length = l[i].ks.length := by
    have := congrArg List.length a.t
    simpa using this
  have hli := List.getElem?_eq_getElem hi
  have eT : ndT (tsA p.1) ⟨l[i].op, l[i].im, p.2⟩ = T10 l i := by
    rw [T10_at gl.back hli]
    exact ndT_map a.t
  have eS : nsort l[i].op l[i].im (p.2.map fun q => (sortsA p.1).getD q.toNat 0) = (sortsA l).getD i 0 := by
    rw [sort_at gl.wf hli, a.s]
  have hS0 : (sortsA l).getD i 0 ≠ 0 := by
    have hq : i < (sortsA l).length := by rw [sortsA_len]; exact hi
    rw [List.getD_eq_getElem?_getD, List.getElem?_eq_getElem hq]
    exact gl.wf _ (List.getElem_mem hq)
  have tn : (i : Int).toNat = i := Int.toNat_natCast i
  cases e : fidx ⟨l[i].op, l[i].im, p.2⟩ p.1 0 with
  | some j =>
    have hp : putA p.1 ⟨l[i].op, l[i].im, p.2⟩ = (p.1, (j : Int)) := by unfold putA; rw [e]
    have hj := fidx_lt e
    have hg := fidx_get e
    rw [Nat.sub_zero] at hg
    have hy : p.1 = y := by
      rcases a.lst with q | q
      · exact q
      · have := a.g.back j _ hg _ q
        omega
    rw [hp]
    refine ⟨a.g, a.pre, ⟨by simp, by show (j : Int) < (p.1.length : Int); omega⟩, ?_, ?_, .inl hy, fun q h1 h2 => by have h2 : q < p.1.length := h2; rw [hy] at h2; omega⟩
    · show T10 p.1 (j : Int).toNat = _
      rw [Int.toNat_natCast, tn, T10_at a.g.back hg, eT]
    · show (sortsA p.1).getD (j : Int).toNat 0 = _
      rw [Int.toNat_natCast, tn, sort_at a.g.wf hg, eS]
  | none =>
    have hp : putA p.1 ⟨l[i].op, l[i].im, p.2⟩ = (p.1 ++ [⟨l[i].op, l[i].im, p.2⟩], (p.1.length : Int)) := by unfold putA; rw [e]
    have hno := fidx_no e
    have hlb := a.g.lb
    have hpre : p.1 <+: p.1 ++ [(⟨l[i].op, l[i].im, p.2⟩ : Nd)] := List.prefix_append _ _
    have hst : sstep (sortsA p.1) ⟨l[i].op, l[i].im, p.2⟩ = (sortsA l).getD i 0 := by
      unfold sstep
      rw [if_pos, ← eS]
      rw [List.all_eq_true]
      intro q hq
      have := a.b q hq
      have hq2 : q.toNat < (sortsA p.1).length := by rw [sortsA_len]; omega
      unfold kidOk
      simp only [Bool.and_eq_true, decide_eq_true_eq]
      refine ⟨this.1, by rw [sortsA_len]; exact this.2, ?_⟩
      rw [List.getD_eq_getElem?_getD, List.getElem?_eq_getElem hq2]
      exact a.g.wf _ (List.getElem_mem hq2)
    have hwf : WFN (p.1 ++ [(⟨l[i].op, l[i].im, p.2⟩ : Nd)]) := by
      intro s hs
      rw [sortsA_snoc, hst] at hs
      rcases List.mem_append.1 hs with hs | hs
      · exact a.g.wf s hs
      · rw [List.mem_singleton.1 hs]
        exact hS0
    have hat : (p.1 ++ [(⟨l[i].op, l[i].im, p.2⟩ : Nd)])[p.1.length]? = some ⟨l[i].op, l[i].im, p.2⟩ := by simp
    have hT : T10 (p.1 ++ [(⟨l[i].op, l[i].im, p.2⟩ : Nd)]) p.1.length = T10 l i := by
      unfold T10 at eT ⊢
      rw [tsA_snoc, List.getD_eq_getElem?_getD, List.getElem?_append_right (by rw [tsA_len]; exact Nat.le_refl _), tsA_len, Nat.sub_self]
      exact eT
    rw [hp]
    refine ⟨⟨?_, ?_, hwf, ?_, a.g.sl⟩, a.pre.trans hpre, ⟨by show (0 : Int) ≤ (p.1.length : Int); omega, by show (p.1.length : Int) < ((p.1 ++ [_]).length : Int); simp; omega⟩, ?_, ?_, .inr (by show (p.1.length : Int) = ((p.1 ++ [_]).length : Int) - 1; simp), ?_⟩
    · intro n h
      rcases List.mem_append.1 h with h | h
      · exact a.g.ok n h
      · rw [List.mem_singleton.1 h]
        refine ⟨⟨hn.1.1, hn.1.2.1, hn.1.2.2.1, fun q hq => ?_⟩, by show p.2.length ≤ 3; rw [hle]; exact hn.2.1, hn.2.2⟩
        have := a.b q hq
        unfold i64b
        omega
    · exact List.nodup_append.2 ⟨a.g.nd, by simp, fun x hx z hz h => hno (by rw [List.mem_singleton] at hz; rw [← hz, ← h]; exact hx)⟩
    · intro q hq
      rcases Nat.lt_or_ge q p.1.length with h | h
      · obtain ⟨k, h1, h2⟩ := a.g.src q h
        exact ⟨k, h1, by rw [T10_pre hpre h, h2]⟩
      · have : q = p.1.length := by
          have h2 : q < (p.1 ++ [(⟨l[i].op, l[i].im, p.2⟩ : Nd)]).length := hq
          simp at h2
          omega
        subst this
        exact ⟨i, hi, hT⟩
    · show T10 _ (p.1.length : Int).toNat = _
      rw [Int.toNat_natCast, tn, hT]
    · show (sortsA _).getD (p.1.length : Int).toNat 0 = _
      rw [Int.toNat_natCast, tn, sortsA_snoc, List.getD_eq_getElem?_getD, List.getElem?_append_right (by rw [sortsA_len]; exact Nat.le_refl _), sortsA_len, Nat.sub_self, hst]
      rfl
    · intro q h1 h2
      have h2 : q < (p.1 ++ [(⟨l[i].op, l[i].im, p.2⟩ : Nd)]).length := h2
      simp at h2
      rcases Nat.lt_or_ge q p.1.length with h | h
      · rcases a.par q h1 h with h3 | ⟨n, h3, h4⟩
        · exact .inr ⟨_, List.mem_append_right _ (List.mem_singleton.2 rfl), h3⟩
        · exact .inr ⟨n, List.mem_append_left _ h3, h4⟩
      · left
        show (q : Int) = (p.1.length : Int)
        omega
theorem rkA_ok {l : List Nd} {d : Nat} (ih : ∀ (y : List Nd) (i : Nat), i < d → i < l.length → RG l y → RR l y i (rdA l d y i)) {y : List Nd} (g : RG l y) : ∀ (j : Nat) (ks : List Int), (∀ k ∈ ks, 0 ≤ k ∧ k < d ∧ k < l.length) → j ≤ ks.length → RK l y (ks.take j) (rkA (rdA l d) y (ks.take j))
  | 0, ks, _, _ => RK.nil g
  | j + 1, ks, hk, hj => by
    have h1 := rkA_ok ih g j ks hk (by omega)
    have hlt : j < ks.length := hj
    rw [rkA_take hlt, List.take_succ_eq_append_getElem hlt]
    refine RK.snoc h1 ?_
    obtain ⟨k0, k1, k2⟩ := hk _ (List.getElem_mem hlt)
    have := ih (rkA (rdA l d) y (ks.take j)).1 ks[j].toNat (by omega) (by omega) h1.g
    rw [Int.toNat_of_nonneg k0] at this
    exact this
theorem getD_at {l : List Nd} {i : Nat} (h : i < l.length) : l.getD i default = l[i] := by rw [List.getD_eq_getElem?_getD, List.getElem?_eq_getElem h]; rfl
theorem rdA_ok {l : List Nd} (gl : RG l l) : ∀ (d : Nat) (y : List Nd) (i : Nat), i < d → i < l.length → RG l y → RR l y i (rdA l d y i)
  | 0, y, i, h, _, _ => by omega
  | d + 1, y, i, h, hi, g => by
    have hk : ∀ k ∈ l[i].ks, 0 ≤ k ∧ k < d ∧ k < l.length := fun k hk => by
      have := gl.back i _ (List.getElem?_eq_getElem hi) k hk
      omega
    have := rkA_ok (rdA_ok gl d) g l[i].ks.length l[i].ks hk (Nat.le_refl _)
    rw [List.take_length] at this
    have h2 := RR.put gl hi this
    rw [rdA]
    simp only [Int.toNat_natCast, getD_at hi]
    exact h2
/-- the operands read so far, in the heap -/
def KVr (kv : IV) (ks : List Int) (g : Heap) (id m : Nat) (io : Option Nat) (n : Nat) : Prop := (kv = .nilslice ∧ ks = []) ∨ ∃ k, kv = .vslice (some k) ks.length ks.length 1 (ks.map (IV.int .i64)) ∧ KH ks k g ∧ (k ≠ id ∧ k ≠ m ∧ io ≠ some k) ∧ n ≤ k
theorem RH.frameK {h h2 : Heap} {id a m k : Nat} {s : List UInt8} {y : List Nd} {io : Option Nat} (r : RH h id s a y m io) (hk : k ≠ id ∧ k ≠ m ∧ io ≠ some k) (hf : HF k h h2) : RH h2 id s a y m io := by
  obtain ⟨⟨h1, h3, h4⟩, h5, lv, h6, h7⟩ := r
  have hn := hf.1
  refine ⟨⟨by omega, by omega, h4⟩, by rw [hf.2 m h3 hk.2.1.symm, h5], lv, by rw [hf.2 id h1 hk.1.symm, h6], ?_⟩
  rcases h7 with q | ⟨iL, q1, q2, q3, q4, q5⟩
  · exact .inl q
  · exact .inr ⟨iL, q1, q2, by rw [hf.2 iL q4 (fun e => hk.2.2 (by rw [q1, e])), q3], by omega, q5⟩
theorem FRo.hf {id m k : Nat} {io : Option Nat} {h g g2 : Heap} (x : FRo id m io h g) (hf : HF k g g2) (hk : h.next ≤ k) : FRo id m io h g2 :=
  ⟨Nat.le_trans x.1 hf.1, fun j h1 h2 h3 h4 => by rw [hf.2 j (Nat.lt_of_lt_of_le h1 x.1) (by omega), x.2 j h1 h2 h3 h4]⟩
theorem KVr.step {kv : IV} {ks : List Int} {g g2 : Heap} {id m n : Nat} {io io2 : Option Nat} (x : KVr kv ks g id m io n) (f : FRo id m io g g2) (k : IOk g io io2) : KVr kv ks g2 id m io2 n := by
  rcases x with q | ⟨i, q1, ⟨q2, q3, q4⟩, q5, q6⟩
  · exact .inl q
  · exact .inr ⟨i, q1, ⟨q2, by rw [f.2 i q4 q5.1 q5.2.1 q5.2.2, q3], Nat.lt_of_lt_of_le q4 f.1⟩, ⟨q5.1, q5.2.1, k.ne q4 q5.2.2⟩, q6⟩
theorem KVr.setId {kv : IV} {ks : List Int} {g : Heap} {id m n : Nat} {io : Option Nat} {o : IObj} (x : KVr kv ks g id m io n) : KVr kv ks (g.set id o) id m io n := x.step FRo.setId IOk.refl
theorem KVr.app {kv : IV} {ks : List Int} {g : Heap} {id m n : Nat} {io : Option Nat} (x : KVr kv ks g id m io n) : (kv = .nilslice ∧ ks = []) ∨ ∃ k, kv = .vslice (some k) ks.length ks.length 1 (ks.map (IV.int .i64)) ∧ KH ks k g := by
  rcases x with q | ⟨i, q1, q2, _⟩
  · exact .inl q
  · exact .inr ⟨i, q1, q2⟩
theorem KVr.ka {kv : IV} {ks : List Int} {g : Heap} {id m n : Nat} {io : Option Nat} (x : KVr kv ks g id m io n) : KA kv ks := by
  rcases x with q | ⟨i, q1, _⟩
  · exact .inl q
  · exact .inr ⟨some i, ks.length, q1⟩
theorem RH.adv {h : Heap} {id a m : Nat} {s : List UInt8} {y : List Nd} {io : Option Nat} {lv : IV} (r : RH h id s a y m io) (e : h.get id = .cells [.str s, .int .i64 a, .bool false, lv, .map m]) (k : Nat) (hb : a + k ≤ 1000000) : RH (h.set id (.cells [.str s, .int .i64 (IntKind.i64.wrap ((a : Int) + (k : Int))), .bool false, lv, .map m])) id s (a + k) y m io := by
  rw [IntWalk.i64_in _ (by omega)]
  exact RH.setAt r e (a + k)
theorem RH.advg {h : Heap} {id a m : Nat} {s : List UInt8} {lv : IV} (k : Nat) (hb : a + k ≤ 1000000) : (h.set id (.cells [.str s, .int .i64 (IntKind.i64.wrap ((a : Int) + (k : Int))), .bool false, lv, .map m])).get id = .cells [.str s, .int .i64 ((a + k : Nat) : Int), .bool false, lv, .map m] := by
  rw [get_set_eq, IntWalk.i64_in _ (by omega)]
  rfl
theorem RH.lts {h : Heap} {id a m : Nat} {s : List UInt8} {y : List Nd} {io : Option Nat} (r : RH h id s a y m io) : id < h.next ∧ m < h.next ∧ ∀ iL, io = some iL → iL < h.next := by
  obtain ⟨⟨h1, h3, h4⟩, h5, lv, h6, h7⟩ := r
  refine ⟨h1, h3, fun iL e => ?_⟩
  rcases h7 with ⟨q, _⟩ | ⟨iL2, q1, q2, q3, q4, q5⟩
  · rw [q] at e; cases e
  · rw [q1] at e; cases e; exact q4
theorem KVr.new {kv : IV} {ks : List Int} {g h3 : Heap} {id m n kk : Nat} {io : Option Nat} {q : Int} (x : KVr kv ks g id m io n) (hr : id < g.next ∧ m < g.next ∧ ∀ iL, io = some iL → iL < g.next) (hn : n ≤ g.next) (kh : KH (ks ++ [q]) kk h3) (hor : g.next ≤ kk ∨ kv = .vslice (some kk) ks.length ks.length 1 (ks.map (IV.int .i64))) :
    KVr (.vslice (some kk) (ks ++ [q]).length (ks ++ [q]).length 1 ((ks ++ [q]).map (IV.int .i64))) (ks ++ [q]) h3 id m io n ∧ (kk ≠ id ∧ kk ≠ m ∧ io ≠ some kk) ∧ n ≤ kk := by
  have h : (kk ≠ id ∧ kk ≠ m ∧ io ≠ some kk) ∧ n ≤ kk := by
    rcases hor with h | h
    · exact ⟨⟨by omega, by omega, fun e => by have := hr.2.2 _ e; omega⟩, by omega⟩
    · rcases x with ⟨e, _⟩ | ⟨i, e, _, e2, e3⟩
      · rw [e] at h; cases h
      · rw [e] at h
        simp only [IV.vslice.injEq, Option.some.injEq, and_true] at h
        subst h
        exact ⟨e2, e3⟩
  exact ⟨.inr ⟨kk, rfl, kh, h.1, h.2⟩, h.1, h.2⟩
theorem nx_cons {s : List UInt8} {a : Nat} {x : UInt8} {q : List UInt8} (hd : s.drop a = x :: q) (c : Int) : nx s a c = ((x.toNat : Int) == c) := by
  have e : (s.drop a)[0]? = some x := by rw [hd]; rfl
  rw [List.getElem?_drop, Nat.add_zero] at e
  unfold nx
  rw [e]
theorem lfT_nz {op im : Int} (h : lf op = true) : ∃ c q, lfT op im = c :: q := by
  have := lf_cases h
  unfold lfT
  split
  · obtain ⟨c, r, e, _⟩ := txt_cons im
    exact ⟨c, r, e⟩
  · split
    · exact ⟨_, _, rfl⟩
    · split
      · exact ⟨_, _, rfl⟩
      · exact ⟨_, _, rfl⟩
theorem drop_app {s t r : List UInt8} {a : Nat} (h : s.drop a = t ++ r) (n : Nat) (hn : n = t.length) : s.drop (a + n) = r := by
  subst hn
  rw [← List.drop_drop, h, List.drop_left]
theorem Dl.we {r : List UInt8} (h : Dl r) : We r := fun c q e => by
  rcases h c q e with e | e
  · exact .inl e
  · exact .inr (.inr e)
theorem kdT_dl (o : List (List UInt8)) (ks : List Int) (r : List UInt8) : Dl (kdT o ks ++ 41 :: r) := by
  cases ks with
  | nil => intro c q e; cases e; exact .inr rfl
  | cons k t => intro c q e; cases e; exact .inl rfl
theorem kdT_cons (l : List Nd) (k : Int) (t : List Int) : kdT (tsA l) (k :: t) = 32 :: (T10 l k.toNat ++ kdT (tsA l) t) := rfl
theorem kdT_app (o : List (List UInt8)) (a b : List Int) : kdT o (a ++ b) = kdT o a ++ kdT o b := by unfold kdT; rw [List.flatMap_append]
/-! Dependencies. -/
/-- every node but the last is an operand -/
def Use (l : List Nd) (j : Nat) : Prop := ∀ q, q < j → ∃ (p : Nat) (n : Nd), l[p]? = some n ∧ p ≤ j ∧ (q : Int) ∈ n.ks
def BHd (g : Heap) (id : Nat) (b : List Bool) : Prop := g.get id = .cells (b.map IV.bool) ∧ id < g.next
/-- operands of the nodes from a place on are marked -/
def MKd (l : List Nd) (j jj : Nat) (b : List Bool) : Prop := jj ≤ j + 1 ∧ b.length = j + 1 ∧ b[j]? = some true ∧ ∀ (p : Nat) (n : Nd), l[p]? = some n → jj ≤ p → p ≤ j → ∀ k ∈ n.ks, b[k.toNat]? = some true
theorem MKd.at {l : List Nd} {j jj : Nat} {b : List Bool} (h : MKd l j (jj + 1) b) (hb : Back l) (hu : Use l j) (hj : jj ≤ j) : b[jj]? = some true := by
  obtain ⟨h1, h2, h3, h4⟩ := h
  rcases Nat.lt_or_ge jj j with q | q
  · obtain ⟨p, n, e1, e2, e3⟩ := hu jj q
    have h5 := hb p n e1 _ e3
    have h6 := h4 p n e1 (by omega) e2 _ e3
    rw [Int.toNat_natCast] at h6
    exact h6
  · obtain rfl : jj = j := by omega
    exact h3
theorem MKd.all {l : List Nd} {j : Nat} {b : List Bool} (h : MKd l j 0 b) (hu : Use l j) : b = List.replicate (j + 1) true := by
  obtain ⟨h1, h2, h3, h4⟩ := h
  refine List.ext_getElem? fun q => ?_
  rcases Nat.lt_or_ge q (j + 1) with c | c
  · rw [List.getElem?_replicate_of_lt c]
    rcases Nat.lt_or_ge q j with d | d
    · obtain ⟨p, n, e1, e2, e3⟩ := hu q d
      have h6 := h4 p n e1 (Nat.zero_le _) e2 _ e3
      rw [Int.toNat_natCast] at h6
      exact h6
    · obtain rfl : q = j := by omega
      exact h3
  · rw [List.getElem?_eq_none (by omega), List.getElem?_eq_none (by simpa using c)]
def AllT (g : Heap) (id j : Nat) : Prop := BHd g id (List.replicate (j + 1) true)
theorem setB {b : List Bool} {q : Nat} (h : q < b.length) : (b.map IV.bool).take q ++ [IV.bool true] ++ (b.map IV.bool).drop (q + 1) = (b.set q true).map IV.bool := by
  rw [List.set_eq_take_append_cons_drop, if_pos h]
  simp
theorem repl_false : ∀ n : Nat, repl n [IV.bool false] = (List.replicate n false).map IV.bool
  | 0 => rfl
  | n + 1 => by
    rw [List.replicate_succ, List.map_cons, ← repl_false n]
    rfl
theorem set_mono {b : List Bool} {q k : Nat} (h : b[k]? = some true) : (b.set q true)[k]? = some true := by
  rw [List.getElem?_set]
  split
  · have := (List.getElem?_eq_some_iff.1 h).1
    subst_vars
    rw [if_pos this]
  · exact h
theorem MKd.set {l : List Nd} {j jj q : Nat} {b : List Bool} (h : MKd l j jj b) : MKd l j jj (b.set q true) :=
  ⟨h.1, by rw [List.length_set]; exact h.2.1, set_mono h.2.2.1, fun p n e1 e2 e3 k hk => set_mono (h.2.2.2 p n e1 e2 e3 k hk)⟩
/-- distinct nodes -/
def DN (y : List Nd) : Prop := y.Nodup ∧ y.length ≤ 1000000 ∧ ∀ n ∈ y, n.ks.length ≤ 3
theorem RG.pg {l y : List Nd} (g : RG l y) : PG y := by
  refine ⟨g.back, fun n hn => ?_, g.lb⟩
  have h := g.ok n hn
  have ht := g.tl n hn
  exact ⟨h.1.1, h.2.2, h.1.2.2.1, by omega, ht.2.2.2.2⟩
theorem RG.dn {l y : List Nd} (g : RG l y) : DN y := ⟨g.nd, g.lb, fun n hn => (g.ok n hn).2.1⟩
/-- what is read from a node's text -/
theorem rd_all {l : List Nd} (gl : RG l l) {i : Nat} (hi : i < l.length) : RG l (rdA l (i + 1) [] i).1 ∧ 0 < (rdA l (i + 1) [] i).1.length ∧ T10 (rdA l (i + 1) [] i).1 ((rdA l (i + 1) [] i).1.length - 1) = T10 l i ∧ Use (rdA l (i + 1) [] i).1 ((rdA l (i + 1) [] i).1.length - 1) := by
  have h := rdA_ok gl (i + 1) [] i (Nat.lt_succ_self _) hi (RG.nil gl.sl)
  generalize rdA l (i + 1) [] i = p at h
  have hb := h.b
  have h0 : 0 < p.1.length := by omega
  have he : p.2 = ((p.1.length : Nat) : Int) - 1 := by
    rcases h.lst with q | q
    · rw [q] at h0; exact absurd h0 (Nat.lt_irrefl _)
    · exact q
  have hn : p.2.toNat = p.1.length - 1 := by omega
  have ht := h.t
  rw [hn, Int.toNat_natCast] at ht
  refine ⟨h.g, h0, ht, fun q hq => ?_⟩
  rcases h.par q (Nat.zero_le _) (by omega) with e | ⟨n, e1, e2⟩
  · omega
  · obtain ⟨j, hj, rfl⟩ := List.mem_iff_getElem.1 e1
    exact ⟨j, _, List.getElem?_eq_getElem hj, by omega, e2⟩
theorem RG.self {l y : List Nd} (g : RG l y) : RG y y := ⟨g.ok, g.nd, g.wf, fun q hq => ⟨q, hq, rfl⟩, g.lb⟩
end Go.M10
