/-
  Texts of numbers, in plain Lean.
  Conditions: none.
-/
import Derived.IntWalk
set_option linter.unusedVariables false
namespace Go.M29
/-- decimal digits -/
def digN (n : Nat) : List UInt8 := if n < 10 then [UInt8.ofNat (48 + n)] else digN (n / 10) ++ [UInt8.ofNat (48 + n % 10)]
termination_by n
decreasing_by omega
theorem digN_lt {n : Nat} (h : n < 10) : digN n = [UInt8.ofNat (48 + n)] := by rw [digN, if_pos h]
theorem digN_ge {n : Nat} (h : ¬ n < 10) : digN n = digN (n / 10) ++ [UInt8.ofNat (48 + n % 10)] := by rw [digN, if_neg h]
/-- the text of a number -/
def txt (n : Int) : List UInt8 := if n < 0 then 45 :: digN n.natAbs else digN n.natAbs
def isD (b : UInt8) : Prop := 48 ≤ b.toNat ∧ b.toNat ≤ 57
theorem isD_of {k : Nat} (h : k < 10) : isD (UInt8.ofNat (48 + k)) ∧ (UInt8.ofNat (48 + k)).toNat = 48 + k := by
  have : (UInt8.ofNat (48 + k)).toNat = 48 + k := by
    rw [UInt8.toNat_ofNat']
    omega
  unfold isD
  rw [this]
  omega
theorem digN_all (n : Nat) : ∀ b ∈ digN n, isD b := by
  induction n using Nat.strongRecOn with
  | _ n ih =>
    by_cases h : n < 10
    · rw [digN_lt h]
      intro b hb
      rw [List.mem_singleton] at hb
      subst hb
      exact (isD_of h).1
    · rw [digN_ge h]
      intro b hb
      rcases List.mem_append.1 hb with hb | hb
      · exact ih (n / 10) (by omega) b hb
      · rw [List.mem_singleton] at hb
        subst hb
        exact (isD_of (by omega)).1
/-- what a list of digits is worth -/
def val (l : List UInt8) : Nat := l.foldl (fun a b => a * 10 + (b.toNat - 48)) 0
theorem val_snoc (l : List UInt8) (b : UInt8) : val (l ++ [b]) = val l * 10 + (b.toNat - 48) := by
  unfold val
  rw [List.foldl_append]
  rfl
theorem val_digN (n : Nat) : val (digN n) = n := by
  induction n using Nat.strongRecOn with
  | _ n ih =>
    by_cases h : n < 10
    · rw [digN_lt h]
      show 0 * 10 + ((UInt8.ofNat (48 + n)).toNat - 48) = n
      rw [(isD_of h).2]
      omega
    · rw [digN_ge h, val_snoc, ih (n / 10) (by omega), (isD_of (by omega)).2]
      omega
theorem digN_pos (n : Nat) : 0 < (digN n).length := by
  by_cases h : n < 10
  · rw [digN_lt h]; simp
  · rw [digN_ge h]; simp
theorem digN_len (k : Nat) : ∀ n : Nat, n < 10 ^ (k + 1) → (digN n).length ≤ k + 1 := by
  induction k with
  | zero => intro n h; rw [digN_lt (by simpa using h)]; simp
  | succ k ih =>
    intro n h
    by_cases h2 : n < 10
    · rw [digN_lt h2]; simp
    · rw [digN_ge h2, List.length_append]
      have : n / 10 < 10 ^ (k + 1) := by
        rw [Nat.div_lt_iff_lt_mul (by omega)]
        rw [Nat.pow_succ] at h
        exact h
      have := ih _ this
      simp
      omega
theorem digN_head (n : Nat) (h : n ≠ 0) : ∃ c r, digN n = c :: r ∧ c ≠ 48 := by
  induction n using Nat.strongRecOn with
  | _ n ih =>
    by_cases h2 : n < 10
    · refine ⟨_, [], digN_lt h2, fun e => ?_⟩
      have := (isD_of h2).2
      rw [e] at this
      have h3 : (48 : UInt8).toNat = 48 := rfl
      omega
    · obtain ⟨c, r, e, hc⟩ := ih (n / 10) (by omega) (by omega)
      exact ⟨c, r ++ [UInt8.ofNat (48 + n % 10)], by rw [digN_ge h2, e]; rfl, hc⟩
theorem txt_nn {n : Int} (h : 0 ≤ n) : txt n = digN n.natAbs := if_neg (by omega)
theorem txt_neg {n : Int} (h : n < 0) : txt n = 45 :: digN n.natAbs := if_pos h
theorem digN_inj {m n : Nat} (h : digN m = digN n) : m = n := by rw [← val_digN m, h, val_digN]
theorem digN_no {n : Nat} {c : UInt8} {r : List UInt8} (h : digN n = c :: r) : isD c := digN_all n c (by rw [h]; simp)
theorem not45 : ¬ isD 45 := by unfold isD; decide
theorem txt_inj {m n : Int} (h : txt m = txt n) : m = n := by
  by_cases hm : m < 0 <;> by_cases hn : n < 0
  · rw [txt_neg hm, txt_neg hn] at h
    have := digN_inj (List.cons.inj h).2
    omega
  · rw [txt_neg hm, txt_nn (by omega)] at h
    exact absurd (digN_no h.symm) not45
  · rw [txt_nn (by omega), txt_neg hn] at h
    exact absurd (digN_no h) not45
  · rw [txt_nn (by omega), txt_nn (by omega)] at h
    have := digN_inj h
    omega
/-- a byte of a number's text -/
def isT (b : UInt8) : Prop := isD b ∨ b = 45
theorem txt_all (n : Int) : ∀ b ∈ txt n, isT b := by
  intro b hb
  by_cases hn : n < 0
  · rw [txt_neg hn] at hb
    rcases List.mem_cons.1 hb with e | e
    · exact .inr e
    · exact .inl (digN_all _ b e)
  · rw [txt_nn (by omega)] at hb
    exact .inl (digN_all _ b hb)
theorem txt_len {n : Int} (h : -9223372036854775808 ≤ n ∧ n ≤ 9223372036854775807) : (txt n).length ≤ 20 := by
  have := digN_len 18 n.natAbs (by omega)
  by_cases hn : n < 0
  · rw [txt_neg hn, List.length_cons]; omega
  · rw [txt_nn (by omega)]; omega
theorem txt_pos (n : Int) : 0 < (txt n).length := by
  have := digN_pos n.natAbs
  by_cases hn : n < 0
  · rw [txt_neg hn, List.length_cons]; omega
  · rw [txt_nn (by omega)]; exact this
end Go.M29
