/-
  The target machine: what a parser has to find, in plain Lean.
  Conditions: none.
-/
import Derived.Test.YtfmcdageaananaaDoorV29
namespace Go.M29
def zeroIn : In := ⟨0, 0, 0, 0, 0⟩
/-- what parsing a text comes to: the valid instruction that has this text, or none -/
def Rs (s : List UInt8) (r : In × Bool) : Prop := (r.2 = true ∧ vIn r.1 = true ∧ fmtS r.1 = s) ∨ (r = (zeroIn, false) ∧ ∀ i, vIn i = true → fmtS i ≠ s)
theorem Rs_det {s : List UInt8} {r q : In × Bool} (h1 : Rs s r) (h2 : Rs s q) : r = q := by
  obtain ⟨r1, r2⟩ := r
  obtain ⟨q1, q2⟩ := q
  rcases h1 with ⟨a, b, c⟩ | ⟨a, b⟩ <;> rcases h2 with ⟨d, e, f⟩ | ⟨d, e⟩
  · simp only at a d b e c f
    rw [fmtS_inj b e (c.trans f.symm), a, d]
  · exact absurd c (e _ b)
  · exact absurd f (b _ e)
  · rw [a, d]
theorem Rs_no {s : List UInt8} (h : ∀ i, vIn i = true → fmtS i ≠ s) : Rs s (zeroIn, false) := .inr ⟨rfl, h⟩
theorem pcs_fmt {i : In} (h : vIn i = true) : pcsS (fmtS i) = opsS i := by
  have hn : nameS (fmtS i) = (rowOf i.op).nm := fmtS_name h
  unfold pcsS restS
  rw [hn, fmtS_v h]
  unfold fmtV
  cases ho : opsS i with
  | nil => simp [joinO]
  | cons x r =>
    have hc := ops_noC i
    rw [ho] at hc
    rw [if_neg (by simp [joinO])]
    rw [joinO, List.drop_append]
    simp only [Nat.add_sub_cancel_left, List.drop_one, List.tail_cons]
    rw [List.drop_of_length_le (by omega), List.nil_append]
    exact cpl_join x r (hc x (by simp)) fun y hy => hc y (by simp [hy])
/-- the operands from the k-th field on -/
def opsF (k : Nat) (i : In) : List (List UInt8) := match k with
  | 0 => (if fA (fmI i.op) then [if i.op = 6 then txt i.a else 114 :: txt i.a] else []) ++ ((if fB (fmI i.op) then [114 :: txt i.b] else []) ++ ((if fC (fmI i.op) then [114 :: txt i.c] else []) ++ (if fN (fmI i.op) then [txt i.n] else [])))
  | 1 => (if fB (fmI i.op) then [114 :: txt i.b] else []) ++ ((if fC (fmI i.op) then [114 :: txt i.c] else []) ++ (if fN (fmI i.op) then [txt i.n] else []))
  | 2 => (if fC (fmI i.op) then [114 :: txt i.c] else []) ++ (if fN (fmI i.op) then [txt i.n] else [])
  | _ => if fN (fmI i.op) then [txt i.n] else []
theorem opsF3 (i : In) : opsF 3 i = if fN (fmI i.op) then [txt i.n] else [] := rfl
/-- how far a text is parsed -/
def PC (k : Nat) (s : List UInt8) (op a b c : Int) (l : List (List UInt8)) : Prop := ∀ i, vIn i = true → fmtS i = s → op = i.op ∧ (1 ≤ k → a = i.a) ∧ (2 ≤ k → b = i.b) ∧ (3 ≤ k → c = i.c) ∧ l = opsF k i
theorem PC_start (s : List UInt8) (a b c : Int) : PC 0 s (lkp rows 1 (nameS s)).1 a b c (pcsS s) := by
  intro i hi e
  subst e
  have hn : nameS (fmtS i) = (rowOf i.op).nm := fmtS_name hi
  refine ⟨by rw [hn, lkp_nm (vIn_op hi)], by omega, by omega, by omega, pcs_fmt hi⟩
theorem lk_no {s : List UInt8} (h : (lkp rows 1 (nameS s)).2 = false) : ∀ i, vIn i = true → fmtS i ≠ s := by
  intro i hi e
  subst e
  have hn : nameS (fmtS i) = (rowOf i.op).nm := fmtS_name hi
  rw [hn, lkp_nm (vIn_op hi)] at h
  cases h
theorem vIn_zero {i : In} (h : vIn i = true) : (fA (fmI i.op) = false → i.a = 0) ∧ (fB (fmI i.op) = false → i.b = 0) ∧ (fC (fmI i.op) = false → i.c = 0) ∧ (fN (fmI i.op) = false → i.n = 0) ∧
    (0 ≤ i.a ∧ i.a ≤ 7) ∧ (0 ≤ i.b ∧ i.b ≤ 7) ∧ (0 ≤ i.c ∧ i.c ≤ 7) ∧ (i.op = 6 → i.a ≤ 6) := by
  unfold vIn validI at h
  simp only [Bool.and_eq_true, Bool.or_eq_true, Bool.not_eq_true', beq_iff_eq, decide_eq_true_eq] at h
  obtain ⟨⟨⟨⟨⟨⟨⟨⟨_, h1⟩, h2⟩, h3⟩, h4⟩, ha⟩, hb⟩, hc⟩, _⟩ := h
  refine ⟨fun q => ?_, fun q => ?_, fun q => ?_, fun q => ?_, ⟨ha.1, ?_⟩, hb, hc, fun q => ?_⟩
  · rcases h1 with z | z
    · rw [q] at z; cases z
    · exact z
  · rcases h2 with z | z
    · rw [q] at z; cases z
    · exact z
  · rcases h3 with z | z
    · rw [q] at z; cases z
    · exact z
  · rcases h4 with z | z
    · rw [q] at z; cases z
    · exact z
  · have := ha.2
    split at this <;> omega
  · have := ha.2
    rw [if_pos q] at this
    exact this
theorem f6 : fB (fmI 6) = false ∧ fC (fmI 6) = false := by decide
section
variable {s : List UInt8} {op a b c v : Int} {l r : List (List UInt8)} {x : List UInt8}
/-- a field that is not there -/
theorem PC_skipA (h : PC 0 s op 0 b c l) (hf : fA (fmI op) = false) : PC 1 s op 0 b c l := by
  intro i hi e
  obtain ⟨ho, _, _, _, hl⟩ := h i hi e
  subst ho
  refine ⟨rfl, fun _ => ((vIn_zero hi).1 hf).symm, by omega, by omega, ?_⟩
  rw [hl, opsF, hf]; rfl
theorem PC_skipB (h : PC 1 s op a 0 c l) (hf : fB (fmI op) = false) : PC 2 s op a 0 c l := by
  intro i hi e
  obtain ⟨ho, ha, _, _, hl⟩ := h i hi e
  subst ho
  refine ⟨rfl, fun _ => ha (Nat.le_refl _), fun _ => ((vIn_zero hi).2.1 hf).symm, by omega, ?_⟩
  rw [hl, opsF, hf]; rfl
theorem PC_skipC (h : PC 2 s op a b 0 l) (hf : fC (fmI op) = false) : PC 3 s op a b 0 l := by
  intro i hi e
  obtain ⟨ho, ha, hb, _, hl⟩ := h i hi e
  subst ho
  refine ⟨rfl, fun _ => ha (by omega), fun _ => hb (by omega), fun _ => ((vIn_zero hi).2.2.1 hf).symm, ?_⟩
  rw [hl, opsF, hf]; rfl
/-- a register -/
theorem PC_regA (h : PC 0 s op a b c (x :: r)) (hf : fA (fmI op) = true) (h6 : op ≠ 6) (hv : ∀ n : Int, 0 ≤ n → n ≤ 7 → x = 114 :: txt n → v = n) : PC 1 s op v b c r := by
  intro i hi e
  obtain ⟨ho, _, _, _, hl⟩ := h i hi e
  subst ho
  rw [opsF, hf, if_pos rfl, if_neg h6, List.singleton_append] at hl
  obtain ⟨hx, hr⟩ := List.cons.inj hl
  have hz := (vIn_zero hi).2.2.2.2.1
  exact ⟨rfl, fun _ => hv i.a hz.1 hz.2 hx, by omega, by omega, hr⟩
theorem PC_regB (h : PC 1 s op a b c (x :: r)) (hf : fB (fmI op) = true) (hv : ∀ n : Int, 0 ≤ n → n ≤ 7 → x = 114 :: txt n → v = n) : PC 2 s op a v c r := by
  intro i hi e
  obtain ⟨ho, ha, _, _, hl⟩ := h i hi e
  subst ho
  rw [opsF, hf, if_pos rfl, List.singleton_append] at hl
  obtain ⟨hx, hr⟩ := List.cons.inj hl
  have hz := (vIn_zero hi).2.2.2.2.2.1
  exact ⟨rfl, fun _ => ha (by omega), fun _ => hv i.b hz.1 hz.2 hx, by omega, hr⟩
theorem PC_regC (h : PC 2 s op a b c (x :: r)) (hf : fC (fmI op) = true) (hv : ∀ n : Int, 0 ≤ n → n ≤ 7 → x = 114 :: txt n → v = n) : PC 3 s op a b v r := by
  intro i hi e
  obtain ⟨ho, ha, hb, _, hl⟩ := h i hi e
  subst ho
  rw [opsF, hf, if_pos rfl, List.singleton_append] at hl
  obtain ⟨hx, hr⟩ := List.cons.inj hl
  have hz := (vIn_zero hi).2.2.2.2.2.2.1
  exact ⟨rfl, fun _ => ha (by omega), fun _ => hb (by omega), fun _ => hv i.c hz.1 hz.2 hx, hr⟩
/-- a call's number of arguments -/
theorem PC_call {w : Int} {ok : Bool} (h : PC 0 s op a b c (x :: r)) (hf : fA (fmI op) = true) (h6 : op = 6) (hv : ∀ n : Int, (-9223372036854775808 ≤ n ∧ n ≤ 9223372036854775807) → x = txt n → w = n ∧ ok = true) :
    PC 1 s op w b c r ∧ ∀ i, vIn i = true → fmtS i = s → ok = true ∧ 0 ≤ w ∧ w ≤ 6 := by
  have key : ∀ i, vIn i = true → fmtS i = s → op = i.op ∧ w = i.a ∧ ok = true ∧ r = opsF 1 i ∧ 0 ≤ i.a ∧ i.a ≤ 6 := by
    intro i hi e
    obtain ⟨ho, _, _, _, hl⟩ := h i hi e
    subst ho
    rw [opsF, hf, if_pos rfl, if_pos h6, List.singleton_append] at hl
    obtain ⟨hx, hr⟩ := List.cons.inj hl
    have hz := (vIn_zero hi).2.2.2.2.1
    obtain ⟨q1, q2⟩ := hv i.a (by omega) hx
    exact ⟨rfl, q1, q2, hr, hz.1, (vIn_zero hi).2.2.2.2.2.2.2 h6⟩
  refine ⟨fun i hi e => ?_, fun i hi e => ?_⟩
  · obtain ⟨h1, h2, _, h4, _⟩ := key i hi e
    exact ⟨h1, fun _ => h2, by omega, by omega, h4⟩
  · obtain ⟨_, h2, h3, _, h5, h6⟩ := key i hi e
    exact ⟨h3, by omega, by omega⟩
/-- an operation whose number is 6 has no second register -/
theorem PC_no6 {k : Nat} (h : PC k s op a b c l) (hf : fB (fmI op) = true ∨ fC (fmI op) = true) (h6 : op = 6) : False := by
  subst h6
  rw [f6.1, f6.2] at hf
  rcases hf with q | q <;> cases q
/-- an operand that is missing -/
theorem PC_nilA (h : PC 0 s op a b c []) (hf : fA (fmI op) = true) : ∀ i, vIn i = true → fmtS i ≠ s := by
  intro i hi e
  obtain ⟨ho, _, _, _, hl⟩ := h i hi e
  subst ho
  rw [opsF, hf, if_pos rfl] at hl
  cases hl
theorem PC_nilB (h : PC 1 s op a b c []) (hf : fB (fmI op) = true) : ∀ i, vIn i = true → fmtS i ≠ s := by
  intro i hi e
  obtain ⟨ho, _, _, _, hl⟩ := h i hi e
  subst ho
  rw [opsF, hf, if_pos rfl] at hl
  cases hl
theorem PC_nilC (h : PC 2 s op a b c []) (hf : fC (fmI op) = true) : ∀ i, vIn i = true → fmtS i ≠ s := by
  intro i hi e
  obtain ⟨ho, _, _, _, hl⟩ := h i hi e
  subst ho
  rw [opsF, hf, if_pos rfl] at hl
  cases hl
theorem PC_nilN (h : PC 3 s op a b c []) (hf : fN (fmI op) = true) : ∀ i, vIn i = true → fmtS i ≠ s := by
  intro i hi e
  obtain ⟨ho, _, _, _, hl⟩ := h i hi e
  subst ho
  rw [opsF3, hf, if_pos rfl] at hl
  cases hl
/-- the immediate: what is known of the instruction then -/
def PE (s : List UInt8) (op a b c n : Int) (l : List (List UInt8)) : Prop := ∀ i, vIn i = true → fmtS i = s → i = ⟨op, a, b, c, n⟩ ∧ l = []
theorem PC_numN {ok : Bool} (h : PC 3 s op a b c (x :: r)) (hf : fN (fmI op) = true) (hv : ∀ n : Int, (-9223372036854775808 ≤ n ∧ n ≤ 9223372036854775807) → x = txt n → v = n ∧ ok = true) (hn : ∀ i, vIn i = true → -9223372036854775808 ≤ i.n ∧ i.n ≤ 9223372036854775807) :
    PE s op a b c v r ∧ ∀ i, vIn i = true → fmtS i = s → ok = true := by
  have key : ∀ i, vIn i = true → fmtS i = s → (i = ⟨op, a, b, c, v⟩ ∧ r = []) ∧ ok = true := by
    intro i hi e
    obtain ⟨ho, ha, hb, hc, hl⟩ := h i hi e
    subst ho
    rw [opsF3, hf, if_pos rfl] at hl
    obtain ⟨hx, hr⟩ := List.cons.inj hl
    obtain ⟨q1, q2⟩ := hv i.n (hn i hi) hx
    refine ⟨⟨?_, hr⟩, q2⟩
    rw [ha (by omega), hb (by omega), hc (by omega), q1]
  exact ⟨fun i hi e => (key i hi e).1, fun i hi e => (key i hi e).2⟩
theorem PC_skipN (h : PC 3 s op a b c l) (hf : fN (fmI op) = false) : PE s op a b c 0 l := by
  intro i hi e
  obtain ⟨ho, ha, hb, hc, hl⟩ := h i hi e
  subst ho
  rw [opsF3, hf] at hl
  refine ⟨?_, hl⟩
  rw [ha (by omega), hb (by omega), hc (by omega), ← (vIn_zero hi).2.2.2.1 hf]
/-- the last look -/
theorem PE_long (h : PE s op a b c v l) (hl : l ≠ []) : ∀ i, vIn i = true → fmtS i ≠ s := fun i hi e => hl (h i hi e).2
theorem PE_bad (h : PE s op a b c v l) (hb : ¬ (vIn ⟨op, a, b, c, v⟩ = true ∧ fmtS ⟨op, a, b, c, v⟩ = s)) : ∀ i, vIn i = true → fmtS i ≠ s := fun i hi e => hb (by rw [← (h i hi e).1]; exact ⟨hi, e⟩)
end
end Go.M29
