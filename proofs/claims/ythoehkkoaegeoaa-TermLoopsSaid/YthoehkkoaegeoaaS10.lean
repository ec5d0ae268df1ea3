/-
  Terms: sorts as the program reckons them, in plain Lean.
  Conditions: none.
-/
import Derived.Test.YthoehkkoaegeoaaV10
set_option linter.unusedVariables false
namespace Go.M10
open Go.M15 Go.Pv
/-- the sorts that the operands have to have -/
def osL (op : Int) : List Int := if op = 22 then [1, 1, 1] else if op = 23 ∨ op = 27 ∨ op = 29 then [2, 1] else if op = 28 then [2, 1, 1] else if op = 24 then [2] else if op = 25 then [3] else [1, 1]
def vOps (op : Int) (s : List Int) : Bool := arOk op && (decide ((s.length : Int) = ar op) && (if op = 22 ∧ s.getD 1 0 = 2 then decide (s = [1, 2, 2]) else decide (s = (osL op).take s.length)))
/-- what sortOf is given: the sorts so far, in the heap -/
def SP (h : Heap) (id : Nat) (l : List Nd) (i : Nat) (k0 : List Int) : Prop := (i < l.length ∧ (∀ x ∈ l, x.ks.length ≤ 1000000 ∧ x.op ≠ 25 ∧ x.op ≠ 30 ∧ x.op ≠ 31) ∧ l.length ≤ 1000000) ∧ h.get id = .cells (k0.map (IV.int .i64)) ∧ id < h.next ∧ k0.length = l.length ∧ k0.take i = sortsA (l.take i)
theorem ops_cases {op : Int} (h : arOk op = true) (h3 : op ≠ 25 ∧ op ≠ 30 ∧ op ≠ 31) : (op = 1 ∨ op = 2 ∨ op = 26) ∨ op = 3 ∨ op = 22 ∨ op = 23 ∨ op = 24 ∨ (op = 27 ∨ op = 29) ∨ op = 28 ∨ (4 ≤ op ∧ op ≤ 19) ∨ (op = 20 ∨ op = 21) := by
  unfold arOk at h
  rw [decide_eq_true_eq] at h
  omega
def svo (op im : Int) (k : List Int) : Int := if op = 26 ∨ op = 27 ∨ op = 28 ∨ op = 29 then 2 else if op = 22 then k.getD 1 0 else if op = 3 then (if im.tmod 16 = 0 then 2 else 1) else 1
theorem len0 {k : List Int} (h : (k.length : Int) = 0) : k = [] := List.eq_nil_of_length_eq_zero (by omega)
theorem len1 {k : List Int} (h : (k.length : Int) = 1) : ∃ a, k = [a] := by
  match k, h with
  | [a], _ => exact ⟨a, rfl⟩
theorem len2 {k : List Int} (h : (k.length : Int) = 2) : ∃ a b, k = [a, b] := by
  match k, h with
  | [a, b], _ => exact ⟨a, b, rfl⟩
theorem len3 {k : List Int} (h : (k.length : Int) = 3) : ∃ a b c, k = [a, b, c] := by
  match k, h with
  | [a, b, c], _ => exact ⟨a, b, c, rfl⟩
theorem nsort_vo {op im : Int} {k : List Int} (h3 : op ≠ 25 ∧ op ≠ 30 ∧ op ≠ 31) (hr : ∀ x ∈ k, 1 ≤ x ∧ x ≤ 3) : nsort op im k = if vOps op k = true ∧ vImm op im = true then svo op im k else 0 := by
  by_cases hi : vImm op im = true
  case neg =>
    rw [if_neg (fun e => hi e.2)]
    unfold nsort
    rw [if_pos (.inr (.inr (by simpa using hi)))]
  by_cases ha : arOk op = true
  case neg =>
    rw [if_neg (fun e => by unfold vOps at e; simp [ha] at e)]
    unfold nsort
    rw [if_pos (.inl (by simpa using ha))]
  by_cases hl : (k.length : Int) = ar op
  case neg =>
    rw [if_neg (fun e => by unfold vOps at e; simp [hl] at e)]
    unfold nsort
    rw [if_pos (.inr (.inl hl))]
  rw [nsort_ops h3 ha hl hi]
  have hv : vOps op k = (if op = 22 ∧ k.getD 1 0 = 2 then decide (k = [1, 2, 2]) else decide (k = (osL op).take k.length)) := by
    unfold vOps
    rw [ha, decide_eq_true hl]
    rfl
  rw [hv, hi]
  rcases ops_cases ha h3 with h | rfl | rfl | rfl | rfl | h | rfl | h | h
  · have h0 : ar op = 0 := by unfold ar; rw [if_pos (by omega)]
    obtain rfl := len0 (hl.trans h0)
    rcases h with rfl | rfl | rfl <;> simp [svo, osL]
  · obtain rfl := len0 (hl.trans (by decide))
    have hm : 0 ≤ im := by
      unfold vImm at hi
      rw [decide_eq_true_eq] at hi
      have : mxI 3 = 255 := by decide
      omega
    simp [svo, osL, Int.tmod_eq_emod_of_nonneg hm]
  · obtain ⟨a, b, c, rfl⟩ := len3 (hl.trans (by decide))
    have r1 := hr a (by simp)
    have r2 := hr b (by simp)
    have r3 := hr c (by simp)
    simp only [svo, osL, List.getD_cons_zero, List.getD_cons_succ, List.length_cons, List.length_nil, List.take, List.cons.injEq, and_true, true_and, reduceIte]
    by_cases hb : b = 2
    · subst hb
      simp
      by_cases e1 : a = 1 <;> by_cases e2 : c = 2 <;> simp [e1, e2] <;> omega
    · simp [hb]
      by_cases e1 : a = 1 <;> by_cases e2 : b = 1 <;> by_cases e3 : c = 1 <;> simp [e1, e2, e3] <;> omega
  · obtain ⟨a, b, rfl⟩ := len2 (hl.trans (by decide))
    simp [svo, osL]
  · obtain ⟨a, rfl⟩ := len1 (hl.trans (by decide))
    simp [svo, osL]
  · have h0 : ar op = 2 := by rcases h with rfl | rfl <;> decide
    obtain ⟨a, b, rfl⟩ := len2 (hl.trans h0)
    rcases h with rfl | rfl <;> simp [svo, osL]
  · obtain ⟨a, b, c, rfl⟩ := len3 (hl.trans (by decide))
    simp [svo, osL]
  · have h0 : ar op = 2 := by unfold ar; rw [if_neg (by omega), if_neg (by omega), if_pos (by omega)]
    obtain ⟨a, b, rfl⟩ := len2 (hl.trans h0)
    have ho : osL op = [1, 1] := by unfold osL; rw [if_neg (by omega), if_neg (by omega), if_neg (by omega), if_neg (by omega), if_neg (by omega)]
    rw [ho]
    have n : op ≠ 3 ∧ op ≠ 26 ∧ op ≠ 22 ∧ op ≠ 23 ∧ op ≠ 24 ∧ op ≠ 27 ∧ op ≠ 28 ∧ op ≠ 29 := by omega
    simp [svo, n]
  · have h0 : ar op = 1 := by unfold ar; rw [if_neg (by omega), if_pos (by omega)]
    obtain ⟨a, rfl⟩ := len1 (hl.trans h0)
    have ho : osL op = [1, 1] := by unfold osL; rw [if_neg (by omega), if_neg (by omega), if_neg (by omega), if_neg (by omega), if_neg (by omega)]
    rw [ho]
    have n : op ≠ 3 ∧ op ≠ 26 ∧ op ≠ 22 ∧ op ≠ 23 ∧ op ≠ 24 ∧ op ≠ 27 ∧ op ≠ 28 ∧ op ≠ 29 := by omega
    simp [svo, n]
theorem osL_ar {op : Int} (h : arOk op = true) (h3 : op ≠ 25 ∧ op ≠ 30 ∧ op ≠ 31) : 0 ≤ ar op ∧ ar op ≤ ((osL op).length : Int) := by
  rcases ops_cases h h3 with h | rfl | rfl | rfl | rfl | h | rfl | h | h
  · have h0 : ar op = 0 := by unfold ar; rw [if_pos (by omega)]
    omega
  all_goals try (constructor <;> decide)
  · rcases h with rfl | rfl <;> (constructor <;> decide)
  · have h0 : ar op = 2 := by unfold ar; rw [if_neg (by omega), if_neg (by omega), if_pos (by omega)]
    have ho : osL op = [1, 1] := by unfold osL; rw [if_neg (by omega), if_neg (by omega), if_neg (by omega), if_neg (by omega), if_neg (by omega)]
    rw [ho, h0]; decide
  · have h0 : ar op = 1 := by unfold ar; rw [if_neg (by omega), if_pos (by omega)]
    have ho : osL op = [1, 1] := by unfold osL; rw [if_neg (by omega), if_neg (by omega), if_neg (by omega), if_neg (by omega), if_neg (by omega)]
    rw [ho, h0]; decide
/-- sorts are 0 to 3 -/
theorem nsort_rng {op im : Int} {k : List Int} (hr : ∀ x ∈ k, 1 ≤ x ∧ x ≤ 3) : 0 ≤ nsort op im k ∧ nsort op im k ≤ 3 := by
  unfold nsort
  repeat' split
  all_goals try omega
  rename_i h1 h2 h3 h4 h5
  have : k.getD 1 0 = 0 ∨ k.getD 1 0 ∈ k := by
    rw [List.getD_eq_getElem?_getD]
    rcases Nat.lt_or_ge 1 k.length with q | q
    · rw [List.getElem?_eq_getElem q]; exact .inr (List.getElem_mem q)
    · rw [List.getElem?_eq_none q]; exact .inl rfl
  rcases this with q | q
  · omega
  · have := hr _ q
    omega
theorem sstep_rng {out : List Int} {n : Nd} (h : ∀ x ∈ out, 0 ≤ x ∧ x ≤ 3) : 0 ≤ sstep out n ∧ sstep out n ≤ 3 := by
  unfold sstep
  split
  · rename_i ha
    refine nsort_rng fun x hx => ?_
    obtain ⟨q, hq, rfl⟩ := List.mem_map.1 hx
    have := List.all_eq_true.1 ha q hq
    unfold kidOk at this
    simp only [Bool.and_eq_true, decide_eq_true_eq] at this
    obtain ⟨p1, p2, p3⟩ := this
    have hlt : q.toNat < out.length := by omega
    have e : out.getD q.toNat 0 = out[q.toNat] := by rw [List.getD_eq_getElem?_getD, List.getElem?_eq_getElem hlt]; rfl
    have := h _ (List.getElem_mem hlt)
    rw [e] at p3 ⊢
    omega
  · omega
theorem sortsF_rng : ∀ (l : List Nd) (out : List Int), (∀ x ∈ out, 0 ≤ x ∧ x ≤ 3) → ∀ x ∈ sortsF out l, 0 ≤ x ∧ x ≤ 3
  | [], out, h => h
  | n :: r, out, h => by
    rw [sortsF]
    refine sortsF_rng r _ fun x hx => ?_
    rcases List.mem_append.1 hx with hx | hx
    · exact h x hx
    · rw [List.mem_singleton.1 hx]
      exact sstep_rng h
theorem sortsA_rng (l : List Nd) : ∀ x ∈ sortsA l, 0 ≤ x ∧ x ≤ 3 := sortsF_rng l [] (fun x h => by cases h)
theorem SI.rng {l : List Nd} {i j : Nat} {k : List Int} (h : SI l i j k) : ∀ x ∈ k, 1 ≤ x ∧ x ≤ 3 := by
  obtain ⟨n, h1, h2, h3, h4⟩ := h
  intro x hx
  rw [h4] at hx
  obtain ⟨q, hq, rfl⟩ := List.mem_map.1 hx
  have := List.all_eq_true.1 h3 q hq
  unfold kidOk at this
  simp only [Bool.and_eq_true, decide_eq_true_eq] at this
  obtain ⟨p1, p2, p3⟩ := this
  have hlt : q.toNat < (sortsA (l.take i)).length := by omega
  have e : (sortsA (l.take i)).getD q.toNat 0 = (sortsA (l.take i))[q.toNat] := by rw [List.getD_eq_getElem?_getD, List.getElem?_eq_getElem hlt]; rfl
  have := sortsA_rng _ _ (List.getElem_mem hlt)
  rw [e] at p3 ⊢
  omega
end Go.M10
