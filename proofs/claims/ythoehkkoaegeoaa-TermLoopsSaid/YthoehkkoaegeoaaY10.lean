/-
  Terms: the generated nodes can be printed and told apart, in plain Lean.
  Conditions: none.
-/
import Derived.Test.YthoehkkoaegeoaaX10
set_option linter.unusedVariables false
namespace Go.M10
open Go.M15 Go.Pv
/-- what a well-formed node is -/
theorem wf_node {l : List Nd} (h : WFN l) {i : Nat} {n : Nd} (hi : l[i]? = some n) : (∀ k ∈ n.ks, kidOk (sortsA (l.take i)) k = true) ∧ arOk n.op = true ∧ (n.ks.length : Int) = ar n.op ∧ vImm n.op n.im = true := by
  have hlt : i < l.length := (List.getElem?_eq_some_iff.1 hi).1
  have e : l[i] = n := (List.getElem?_eq_some_iff.1 hi).2
  have hs : sstep (sortsA (l.take i)) n ≠ 0 := by
    have h1 := sortsA_step hlt
    have h2 := sortsA_pre (List.take_prefix (i + 1) l)
    obtain ⟨r, hr⟩ := h2
    rw [h1] at hr
    rw [← e]
    refine h _ ?_
    rw [← hr]
    simp
  unfold sstep at hs
  split at hs
  · rename_i ha
    refine ⟨fun k hk => List.all_eq_true.1 ha k hk, ?_⟩
    unfold nsort at hs
    split at hs
    · exact absurd rfl hs
    · rename_i hn
      simp only [not_or, Bool.not_eq_false, ne_eq, Decidable.not_not] at hn
      exact ⟨hn.1, by rw [← hn.2.1]; simp, hn.2.2⟩
  · exact absurd rfl hs
theorem wf_back {l : List Nd} (h : WFN l) : Back l := by
  intro i n hi k hk
  have hlt : i < l.length := (List.getElem?_eq_some_iff.1 hi).1
  have := (wf_node h hi).1 k hk
  unfold kidOk at this
  simp only [Bool.and_eq_true, decide_eq_true_eq] at this
  rw [sortsA_len, List.length_take] at this
  omega
theorem NW.pg {i : Nat} {x : List Nd} (h : NW i x) (hi : i ≤ 1000) : PG x := by
  refine ⟨wf_back h.2.2.1, fun n hn => ?_, by have := h.1.2; omega⟩
  obtain ⟨j, hj, rfl⟩ := List.mem_iff_getElem.1 hn
  obtain ⟨_, h1, h2, h3⟩ := wf_node h.2.2.1 (List.getElem?_eq_getElem hj)
  have h4 := h.2.1 _ hn
  have h5 := h.2.2.2.2.2 _ hn
  refine ⟨?_, ⟨h5, h4.2.2⟩, h4.1.2.1, by omega, fun hl => ?_⟩
  · unfold arOk at h1
    rw [decide_eq_true_eq] at h1
    omega
  · have : ar x[j].op = 0 := by
      have := lf_cases hl
      unfold ar
      rw [if_pos (by omega)]
    exact List.eq_nil_of_length_eq_zero (by omega)
theorem vImm0 {op im : Int} (h : vImm op im = true) (h1 : op ≠ 1) (hm : mxI op < 0) : im = 0 := by
  unfold vImm at h
  rw [decide_eq_true_eq] at h
  omega
theorem NW.tl {i : Nat} {x : List Nd} (h : NW i x) : ∀ n ∈ x, Tl n := by
  intro n hn
  obtain ⟨j, hj, rfl⟩ := List.mem_iff_getElem.1 hn
  obtain ⟨_, h1, h2, h3⟩ := wf_node h.2.2.1 (List.getElem?_eq_getElem hj)
  have h5 := h.2.2.2.2.2 _ hn
  have ho : 1 ≤ x[j].op ∧ x[j].op ≤ 31 := by
    unfold arOk at h1
    rw [decide_eq_true_eq] at h1
    omega
  refine ⟨?_, fun e => ?_, fun e => absurd e h5, fun hl hi => ?_, fun hl => ?_⟩
  · by_cases hl : x[j].op = 1 ∨ x[j].op = 2 ∨ x[j].op = 3 ∨ x[j].op = 26
    · exact .inl (decide_eq_true hl)
    · exact .inr (tok_iff.2 (by omega))
  · exact vImm0 h3 (by omega) (by rw [e]; decide)
  · unfold lf at hl
    unfold hImm at hi
    rw [decide_eq_false_iff_not] at hl hi
    refine vImm0 h3 (by omega) ?_
    unfold mxI
    rw [if_neg (by omega), if_neg (by omega), if_neg (by omega), if_neg (by omega), if_neg (by omega), if_neg (by omega)]
    decide
  · have : ar x[j].op = 0 := by
      have := lf_cases hl
      unfold ar
      rw [if_pos (by omega)]
    exact List.eq_nil_of_length_eq_zero (by omega)
theorem prn_ne {x : List Nd} {i : Nat} (h : NW i x) {a b : Nat} (ha : a < x.length) (hb : b < x.length) (hn : prn x a ≠ []) (e : prn x b = prn x a) : b = a := by
  unfold prn at hn e
  have e1 : (if (T10 x a).length ≤ 20000 then T10 x a else []) = T10 x a := by
    split at hn
    · rename_i q; rw [if_pos q]
    · exact absurd rfl hn
  rw [e1] at hn e
  have e2 : T10 x b = T10 x a := by
    split at e
    · exact e
    · exact absurd e.symm hn
  exact T10_ne (wf_back h.2.2.1) (NW.tl h) h.2.2.2.2.1 hb ha e2
end Go.M10
