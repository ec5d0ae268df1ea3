/-
  The target machine: what the reference's parser has to find, in plain Lean.
  Conditions: none.
-/
import Derived.Test.YtfmcdageaananaaDoorX29
namespace Go.M29
/-- the operands as numbers -/
def valsOf (i : In) : List Int := (if fA (fmI i.op) then [i.a] else []) ++ ((if fB (fmI i.op) then [i.b] else []) ++ ((if fC (fmI i.op) then [i.c] else []) ++ (if fN (fmI i.op) then [i.n] else [])))
def stripR (x : List UInt8) : List UInt8 := if 1 < x.length ∧ x.head? = some 114 then x.drop 1 else x
theorem strip_r (n : Int) : stripR (114 :: txt n) = txt n := by
  unfold stripR
  rw [if_pos ⟨by have := txt_pos n; simp; omega, rfl⟩]
  rfl
theorem strip_t (n : Int) : stripR (txt n) = txt n := by
  unfold stripR
  rw [if_neg]
  rintro ⟨_, h⟩
  cases ht : txt n with
  | nil => rw [ht] at h; cases h
  | cons c r =>
    rw [ht, List.head?_cons, Option.some.injEq] at h
    have := txt_all n c (by rw [ht]; simp)
    rw [h] at this
    rcases this with q | q
    · unfold isD at q; revert q; decide
    · revert q; decide
theorem strip_ops (i : In) : (opsS i).map stripR = (valsOf i).map txt := by
  unfold opsS valsOf
  cases fA (fmI i.op) <;> cases fB (fmI i.op) <;> cases fC (fmI i.op) <;> cases fN (fmI i.op) <;> (by_cases h6 : i.op = 6 <;> simp [h6, strip_r, strip_t])
theorem vals_small {i : In} (h : vIn i = true) : ∀ v ∈ valsOf i, (-9223372036854775808 ≤ v ∧ v ≤ 9223372036854775807) ∧ (i.op ≠ 14 → -4611686018427387904 ≤ v ∧ v ≤ 4611686018427387904) := by
  have hz := vIn_zero h
  have hn : (fN (fmI i.op) = true → (-9223372036854775808 ≤ i.n ∧ i.n ≤ 9223372036854775807) ∧ (i.op ≠ 14 → -4611686018427387904 ≤ i.n ∧ i.n ≤ 4611686018427387904)) := by
    intro hf
    unfold vIn validI at h
    simp only [Bool.and_eq_true, Bool.or_eq_true, Bool.not_eq_true', beq_iff_eq, decide_eq_true_eq] at h
    obtain ⟨_, h9⟩ := h
    rw [hf] at h9
    rcases h9 with q | q
    · cases q
    · unfold loI hiI at q
      obtain ⟨q1, q2⟩ := q
      by_cases h14 : i.op = 14
      · rw [if_pos h14] at q1 q2
        exact ⟨⟨q1, q2⟩, fun z => absurd h14 z⟩
      · rw [if_neg h14] at q1 q2
        refine (fun (w : -4611686018427387904 ≤ i.n ∧ i.n ≤ 4611686018427387904) => ⟨by omega, fun _ => w⟩) ⟨?_, ?_⟩
        · repeat' split at q1
          all_goals omega
        · repeat' split at q2
          all_goals omega
  intro v hv
  unfold valsOf at hv
  simp only [List.mem_append] at hv
  rcases hv with hv | hv | hv | hv <;> split at hv <;> simp at hv
  · subst hv; exact ⟨by omega, fun _ => by omega⟩
  · subst hv; exact ⟨by omega, fun _ => by omega⟩
  · subst hv; exact ⟨by omega, fun _ => by omega⟩
  · rename_i hf; subst hv; exact hn hf
/-- the numbers found so far -/
def VL (s : List UInt8) (op : Int) (k : Nat) (vals : List Int) : Prop := ∀ i, vIn i = true → fmtS i = s → op = i.op ∧ vals = (valsOf i).take k
theorem VL_zero (s : List UInt8) : VL s (lkp rows 1 (nameS s)).1 0 [] := by
  intro i hi e
  obtain ⟨ho, _⟩ := PC_start s 0 0 0 i hi e
  exact ⟨ho, rfl⟩
theorem VL_step {s : List UInt8} {op v : Int} {k : Nat} {vals : List Int} {b : Bool} (h : VL s op k vals) (hk : k < (pcsS s).length)
    (hv : ∀ n : Int, (-9223372036854775808 ≤ n ∧ n ≤ 9223372036854775807) → stripR (pcsS s)[k] = txt n → v = n ∧ b = true) :
    VL s op (k + 1) (vals ++ [v]) ∧ ∀ i, vIn i = true → fmtS i = s → b = true ∧ (op ≠ 14 → -4611686018427387904 ≤ v ∧ v ≤ 4611686018427387904) := by
  have key : ∀ i, vIn i = true → fmtS i = s → op = i.op ∧ vals ++ [v] = (valsOf i).take (k + 1) ∧ b = true ∧ (op ≠ 14 → -4611686018427387904 ≤ v ∧ v ≤ 4611686018427387904) := by
    intro i hi e
    obtain ⟨ho, hvs⟩ := h i hi e
    have hp : pcsS s = opsS i := by rw [← e]; exact pcs_fmt hi
    have hs := strip_ops i
    have hlen : (opsS i).length = (valsOf i).length := by
      have := congrArg List.length hs
      simpa using this
    have hk2 : k < (opsS i).length := by rw [← hp]; exact hk
    have hk3 : k < (valsOf i).length := by omega
    have hst : stripR (pcsS s)[k] = txt (valsOf i)[k] := by
      have h1 : ((opsS i).map stripR)[k]? = ((valsOf i).map txt)[k]? := by rw [hs]
      rw [List.getElem?_map, List.getElem?_map, List.getElem?_eq_getElem hk2, List.getElem?_eq_getElem hk3] at h1
      simp only [Option.map_some, Option.some.injEq] at h1
      rw [← h1]
      congr 1
      simp only [hp]
    have hsm := vals_small hi (valsOf i)[k] (List.getElem_mem hk3)
    obtain ⟨q1, q2⟩ := hv _ hsm.1 hst
    refine ⟨ho, ?_, q2, fun h14 => ?_⟩
    · rw [List.take_succ_eq_append_getElem hk3, hvs, q1]
    · rw [q1]
      exact hsm.2 (by rw [← ho]; exact h14)
  exact ⟨fun i hi e => ⟨(key i hi e).1, (key i hi e).2.1⟩, fun i hi e => (key i hi e).2.2⟩
def VP (s : List UInt8) (op : Int) (vals : List Int) : Prop := ∀ i, vIn i = true → fmtS i = s → op = i.op ∧ ∃ m, vals = valsOf i ++ List.replicate m 0
theorem VL_end {s : List UInt8} {op : Int} {k : Nat} {vals : List Int} (h : VL s op k vals) (hk : k = (pcsS s).length) : VP s op vals := by
  intro i hi e
  obtain ⟨ho, hv⟩ := h i hi e
  have hp : pcsS s = opsS i := by rw [← e]; exact pcs_fmt hi
  have hlen : (opsS i).length = (valsOf i).length := by
    have := congrArg List.length (strip_ops i)
    simpa using this
  refine ⟨ho, 0, ?_⟩
  rw [hv, hk, hp, hlen, List.take_length]
  simp
theorem VP_pad {s : List UInt8} {op : Int} {vals : List Int} (h : VP s op vals) : VP s op (vals ++ [0]) := by
  intro i hi e
  obtain ⟨ho, m, hv⟩ := h i hi e
  refine ⟨ho, m + 1, ?_⟩
  rw [hv, List.append_assoc]
  congr 1
  rw [List.replicate_succ']
def PD (s : List UInt8) (op a b c n : Int) : Prop := ∀ i, vIn i = true → fmtS i = s → i = ⟨op, a, b, c, n⟩
theorem PD_of {s : List UInt8} {op v0 v1 v2 v3 : Int} {r : List Int} (h : VP s op (v0 :: v1 :: v2 :: v3 :: r)) :
    (fmI op = 2 → PD s op v0 0 0 0) ∧ (fmI op = 3 → PD s op v0 v1 0 0) ∧ (fmI op = 4 → PD s op v0 v1 v2 0) ∧ (fmI op = 5 ∨ fmI op = 6 → PD s op v0 0 0 v1) ∧
    (fmI op = 7 → PD s op v0 v1 0 v2) ∧ (fmI op = 8 → PD s op 0 0 0 v0) ∧ (fmI op ≠ 2 → fmI op ≠ 3 → fmI op ≠ 4 → fmI op ≠ 5 → fmI op ≠ 6 → fmI op ≠ 7 → fmI op ≠ 8 → PD s op 0 0 0 0) := by
  have key : ∀ i, vIn i = true → fmtS i = s → op = i.op ∧ (1 ≤ fmI op ∧ fmI op ≤ 8) ∧ (∃ m, v0 :: v1 :: v2 :: v3 :: r = valsOf i ++ List.replicate m 0) ∧ (fA (fmI op) = false → i.a = 0) ∧ (fB (fmI op) = false → i.b = 0) ∧ (fC (fmI op) = false → i.c = 0) ∧ (fN (fmI op) = false → i.n = 0) := by
    intro i hi e
    obtain ⟨ho, hm⟩ := h i hi e
    have hz := vIn_zero hi
    have hr := fm_range (vIn_op hi)
    rw [← ho] at hz hr
    exact ⟨ho, hr, hm, hz.1, hz.2.1, hz.2.2.1, hz.2.2.2.1⟩
  refine ⟨fun hf i hi e => ?_, fun hf i hi e => ?_, fun hf i hi e => ?_, fun hf i hi e => ?_, fun hf i hi e => ?_, fun hf i hi e => ?_, fun h2 h3 h4 h5 h6 h7 h8 i hi e => ?_⟩
  all_goals
    obtain ⟨ho, hr, ⟨m, hm⟩, za, zb, zc, zn⟩ := key i hi e
    obtain ⟨o, a, b, c, n⟩ := i
    simp only at ho za zb zc zn
    subst ho
    unfold valsOf at hm
    simp only at hm
  · rw [hf] at hm za zb zc zn; simp [fA, fB, fC, fN] at hm za zb zc zn; simp_all
  · rw [hf] at hm za zb zc zn; simp [fA, fB, fC, fN] at hm za zb zc zn; simp_all
  · rw [hf] at hm za zb zc zn; simp [fA, fB, fC, fN] at hm za zb zc zn; simp_all
  · rcases hf with hf | hf <;> (rw [hf] at hm za zb zc zn; simp [fA, fB, fC, fN] at hm za zb zc zn; simp_all)
  · rw [hf] at hm za zb zc zn; simp [fA, fB, fC, fN] at hm za zb zc zn; simp_all
  · rw [hf] at hm za zb zc zn; simp [fA, fB, fC, fN] at hm za zb zc zn; simp_all
  · have hf : fmI op = 1 := by omega
    rw [hf] at hm za zb zc zn; simp [fA, fB, fC, fN] at hm za zb zc zn; simp_all
theorem cpl_len : ∀ (x cur : List UInt8), (cpl cur x).length ≤ x.length + 1
  | [], cur => by simp [cpl]
  | [b], cur => by simp [cpl]
  | b :: c :: r, cur => by
    rw [cpl]
    split
    · have := cpl_len r []
      simp
      omega
    · have := cpl_len (c :: r) (cur ++ [b])
      simp at this ⊢
      omega
theorem pcs_len (s : List UInt8) : (pcsS s).length ≤ s.length + 1 := by
  unfold pcsS restS
  split
  · simp
  · have := cpl_len (s.drop ((nameS s).length + 1)) []
    rw [List.length_drop] at this
    omega
theorem PD_bad {s : List UInt8} {op a b c v : Int} (h : PD s op a b c v) (hb : ¬ (vIn ⟨op, a, b, c, v⟩ = true ∧ fmtS ⟨op, a, b, c, v⟩ = s)) : ∀ i, vIn i = true → fmtS i ≠ s := fun i hi e => hb (by rw [← h i hi e]; exact ⟨hi, e⟩)
end Go.M29
