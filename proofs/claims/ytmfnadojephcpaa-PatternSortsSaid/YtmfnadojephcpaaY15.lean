/-
  Patterns: what the statements PatternInstances and PatternSorts ask, in plain Lean.
  Conditions: none.
-/
import Derived.Test.YtmfnadojephcpaaV15
set_option linter.unusedVariables false
namespace Go.M15
open Go.Pv
def Z6 : List Int := List.replicate 6 0
theorem z6_i64 : ∀ x ∈ Z6, i64b x := by
  intro x hx
  rw [show x = 0 from List.eq_of_mem_replicate hx]
  unfold i64b
  omega
theorem z6_getD (i : Nat) : Z6.getD i 0 = 0 := by
  unfold Z6
  rw [List.getD_eq_getElem?_getD, List.getElem?_replicate]
  split <;> rfl
section
variable {x : IN} (h : IC x)
include h
theorem IC.nw : NW 14 x.x := h.1.1
theorem IC.pb : PB x.t := h.1.2.1
theorem IC.v6 : x.vars.length = 6 := h.2.2
theorem IC.ne : x.x ≠ [] := fun e => by have := h.nw.1.1; rw [e] at this; simp at this
theorem IC.okx : ∀ n ∈ x.x, okN n := fun n hn => (h.nw.2.1 n hn).1
theorem IC.kx : KB x.x := fun n hn => by have := (h.nw.2.1 n hn).2.1; omega
theorem IC.lx : x.x.length ≤ 17 := h.nw.1.2
theorem IC.vb : ∀ q ∈ x.vars, i64b q := fun q hq => by
  have := h.2.1 q hq
  have := h.lx
  unfold i64b
  omega
theorem IC.all {y : List Nd} (hp : x.x <+: y) : x.vars.all (fun i => decide (0 ≤ i) && decide (i < (y.length : Int))) = true := by
  rw [List.all_eq_true]
  intro q hq
  have := h.2.1 q hq
  have := hp.length_le
  simp only [Bool.and_eq_true, decide_eq_true_eq]
  omega
theorem IC.no (hv : ¬ valB x.t 6 6 = true) : x.y = x.x ∧ x.j = -1 := by
  have e : instB x.x x.t x.vars (List.replicate 6 0) = (x.x, -1) := by
    unfold instB
    rw [if_neg]
    rintro ⟨q, _⟩
    rw [h.v6] at q
    exact hv q
  unfold IN.y IN.j
  rw [e]
  exact ⟨rfl, rfl⟩
theorem IC.instB {t : T} {y : List Nd} (hv : valB t 6 6 = true) (hp : x.x <+: y) : instB y t x.vars Z6 = instA t x.vars Z6 y := by
  unfold Go.M15.instB
  rw [if_pos]
  rw [h.v6]
  exact ⟨hv, h.all hp⟩
theorem IC.yes (hv : valB x.t 6 6 = true) : instA x.t x.vars Z6 x.x = (x.y, x.j) := by
  rw [← h.instB hv (List.prefix_refl _)]
  rfl
theorem IC.pre : x.x <+: x.y := by
  by_cases hv : valB x.t 6 6 = true
  · have := instA_pre x.t x.vars Z6 x.x
    rw [h.yes hv] at this
    exact this
  · rw [(h.no hv).1]
    exact List.prefix_refl _
theorem IC.again (hv : valB x.t 6 6 = true) : Go.M15.instB x.y x.t x.vars Z6 = (x.y, x.j) := by
  rw [h.instB hv h.pre]
  have := instA_again x.t x.vars Z6 x.x x.y (by rw [h.yes hv]; exact List.prefix_refl _)
  rw [this, h.yes hv]
theorem IC.ly : x.y.length ≤ x.x.length + x.t.num ∧ x.y.length ≤ 100 := by
  have hn := h.pb.2.1
  have hl := h.lx
  by_cases hv : valB x.t 6 6 = true
  · have := (instA_len x.t x.vars Z6 x.x).2
    rw [h.yes hv] at this
    dsimp only at this
    omega
  · rw [(h.no hv).1]
    omega
theorem IC.oky : ∀ n ∈ x.y, okN n := by
  have hn := h.pb.2.1
  have hl := h.lx
  by_cases hv : valB x.t 6 6 = true
  · have := (instA_ok x.t x.vars Z6 x.x h.pb.1 h.vb z6_i64 h.okx (by omega)).1
    rw [h.yes hv] at this
    exact this
  · rw [(h.no hv).1]
    exact h.okx
theorem IC.ky : KB x.y := by
  have hn := h.pb.2.1
  by_cases hv : valB x.t 6 6 = true
  · have := instA_kb x.t x.vars Z6 x.x h.kx (by omega)
    rw [h.yes hv] at this
    exact this
  · rw [(h.no hv).1]
    exact h.kx
theorem IC.ney : x.y ≠ [] := fun e => by
  have h1 := h.pre.length_le
  rw [e] at h1
  have h2 := h.nw.1.1
  simp only [List.length_nil] at h1
  omega
theorem IC.var (hv : valB x.t 6 6 = true) (h0 : 0 < x.v) : (x.v - 1).toNat < x.vars.length ∧ x.vars[(x.v - 1).toNat]? = some x.j ∧ 0 ≤ x.j ∧ x.j < x.x.length := by
  have hw := (valB_wi hv).1
  unfold IN.t at hw
  rw [T.wi] at hw
  have hlt : (x.v - 1).toNat < x.vars.length := by rw [h.v6]; omega
  have e := h.yes hv
  unfold IN.t at e
  rw [instA_var h0] at e
  have ej : x.vars.getD (x.v - 1).toNat 0 = x.j := (Prod.mk.inj e).2
  rw [List.getD_eq_getElem?_getD, List.getElem?_eq_getElem hlt] at ej
  have ej : x.vars[(x.v - 1).toNat] = x.j := ej
  have := h.2.1 _ (List.getElem_mem hlt)
  rw [ej] at this
  exact ⟨hlt, by rw [List.getElem?_eq_getElem hlt, ej], this⟩
theorem IC.node (hv : valB x.t 6 6 = true) (h0 : ¬ 0 < x.v) : ∃ (im : Int) (ks : List Int), x.y[x.j.toNat]? = some ⟨x.op, im, ks⟩ ∧ (0 ≤ x.j ∧ x.j < x.y.length) ∧ ks.length = x.ks.length ∧
    ∀ (j : Nat) (hj : j < x.ks.length), ∃ hk : j < ks.length, (Go.M15.instB x.y x.ks[j] x.vars Z6).2 = ks[j] := by
  have e := h.yes hv
  unfold IN.t at e
  rw [instA_node h0] at e
  have e1 := putA_at (instAs x.ks x.vars Z6 x.x).1 ⟨x.op, immV x.iv x.im Z6, (instAs x.ks x.vars Z6 x.x).2⟩
  have e2 := putA_pre (instAs x.ks x.vars Z6 x.x).1 ⟨x.op, immV x.iv x.im Z6, (instAs x.ks x.vars Z6 x.x).2⟩
  rw [e] at e1 e2
  have hl := (instAs_len x.ks x.vars Z6 x.x).2.2
  refine ⟨_, _, e1.1, e1.2, hl, fun j hj => ?_⟩
  obtain ⟨k, k1, k2⟩ := instAs_kid x.ks x.vars Z6 x.x x.y e2 j x.ks[j] (List.getElem?_eq_getElem hj)
  obtain ⟨q1, q2⟩ := List.getElem?_eq_some_iff.1 k1
  have hn := h.pb.2.1
  rw [h.instB (valB_kid hv h0 (by show x.t.num ≤ 1000; omega) (List.getElem_mem hj)) h.pre, k2]
  exact ⟨q1, q2.symm⟩
theorem IC.rng (hv : valB x.t 6 6 = true) : 0 ≤ x.j ∧ x.j < x.y.length := by
  by_cases h0 : 0 < x.v
  · have := h.var hv h0
    have := h.pre.length_le
    omega
  · obtain ⟨_, _, _, q, _⟩ := h.node hv h0
    exact q
theorem IC.num : x.t.num = nums x.ks + 1 ∧ nums x.ks ≤ 39 ∧ thins x.ks ∧ x.ks.length ≤ 39 ∧ sizes 1 x.ks = x.t.num := by
  have hn := h.pb.2.1
  have e : x.t.num = nums x.ks + 1 := rfl
  have hl := len_nums x.ks
  have hs := size_num x.t (by omega)
  exact ⟨e, by omega, thins_nums _ (by omega), by omega, by rw [← hs, size_ks]; rfl⟩
theorem IC.sorts (hv : valB x.t 6 6 = true) (h1 : IV1 x.x x.vars) : WFN x.y ∧ isV x.y x.j := by
  have hp : (valP x.t 0 6 (List.replicate 6 0)).1 = true := by
    unfold valB at hv
    simp only [Bool.and_eq_true, decide_eq_true_eq] at hv
    exact hv.2.2
  have := instA_sort x.t x.vars Z6 x.x 0 6 (List.replicate 6 0) h.pb.2.2 hp (by rw [h.v6]; rfl) z6_getD h1 h.nw.2.2.1
  rw [h.yes hv] at this
  exact this
end
end Go.M15
namespace Go.M15
open Go.Pv
theorem IV1.ix {x : List Nd} {vars : List Int} (h : IV1 x vars) : IX x vars := fun q hq => ⟨(h q hq).1, (h q hq).2.1⟩
theorem NW.v0 {i : Nat} {x : List Nd} (h : NW i x) : isV x 0 := by
  obtain ⟨r, hr⟩ := h.2.2.2
  have h3 := h.1.1
  refine ⟨by omega, by omega, ?_⟩
  rw [← hr, pre_getD (sortsA_pre (List.prefix_append init3 r)) (by decide)]
  rfl
def SVH (x : IN) : Prop := (x.sv = .nilslice ∧ x.vars = []) ∨ ∃ id, x.sv = .vslice (some id) x.vars.length x.vars.length 1 (x.vars.map (IV.int .i64)) ∧ KH x.vars id x.g
theorem putA_mem {l : List Nd} {n m : Nd} (h : m ∈ (putA l n).1) : m ∈ l ∨ m = n := by
  unfold putA at h
  split at h
  · exact .inl h
  · rcases List.mem_append.1 h with h | h
    · exact .inl h
    · exact .inr (List.mem_singleton.1 h)
mutual
theorem instA_ops : ∀ (t : T) (vars imms : List Int) (l : List Nd), t.vo → ∀ n ∈ (instA t vars imms l).1, n ∈ l ∨ valOp n.op
  | .mk v op im iv ks, vars, imms, l, hv, n, hn => by
    by_cases h0 : 0 < v
    · rw [instA_var h0] at hn
      exact .inl hn
    · rw [T.vo] at hv
      have hv := hv.resolve_left h0
      rw [instA_node h0] at hn
      rcases putA_mem hn with hn | rfl
      · exact instAs_ops ks vars imms l hv.2 n hn
      · exact .inr hv.1
theorem instAs_ops : ∀ (ks : List T) (vars imms : List Int) (l : List Nd), vos ks → ∀ n ∈ (instAs ks vars imms l).1, n ∈ l ∨ valOp n.op
  | [], vars, imms, l, hv, n, hn => .inl hn
  | t :: r, vars, imms, l, hv, n, hn => by
    rw [instAs] at hn
    rcases instAs_ops r vars imms _ hv.2 n hn with hn | hn
    · exact instA_ops t vars imms l hv.1 n hn
    · exact .inr hn
end
theorem IC.nsy {x : IN} (h : IC x) (hv : valB x.t 6 6 = true) : ∀ n ∈ x.y, n.ks.length ≤ 1000000 ∧ n.op ≠ 25 ∧ n.op ≠ 30 ∧ n.op ≠ 31 := fun n hn => by
  refine ⟨h.ky n hn, ?_⟩
  have := instA_ops x.t x.vars Z6 x.x h.pb.2.2
  rw [h.yes hv] at this
  rcases this n hn with q | q
  · exact (h.nw.2.1 n q).2.2
  · unfold valOp at q
    omega
end Go.M15
