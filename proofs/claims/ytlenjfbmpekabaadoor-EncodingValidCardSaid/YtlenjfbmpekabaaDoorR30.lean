/-
  Machine words: lists of instructions decoded, in plain Lean.
  Conditions: none.
-/
import Derived.Test.YtlenjfbmpekabaaDoorQ30
namespace Go.M30
open Go.Pv Go.M29
/-- the range of a valid instruction's immediate -/
theorem n_range {op a b c n : Int} (h : validI op a b c n = true) :
    (fmI op = 8 → -33554432 ≤ n ∧ n < 33554432) ∧ (fmI op = 5 → -4194304 ≤ n ∧ n < 4194304) ∧ (fmI op = 7 → -524288 ≤ n ∧ n < 524288) ∧ (fmI op = 6 → -9223372036854775808 ≤ n ∧ n ≤ 9223372036854775807) := by
  have ho := (ok_fields h).1
  unfold validI at h
  simp only [Bool.and_eq_true, Bool.or_eq_true, decide_eq_true_eq, Bool.not_eq_true'] at h
  have hN := h.2
  have h6 := fm6_iff op
  have hb : fN (fmI op) = true → loI op ≤ n ∧ n ≤ hiI op := fun e => by
    rcases hN with q | q
    · rw [e] at q; cases q
    · exact q
  have key : ∀ op : Int, (fmI op = 8 → -33554432 ≤ loI op ∧ hiI op < 33554432) ∧ (fmI op = 5 → -4194304 ≤ loI op ∧ hiI op < 4194304) ∧ (fmI op = 7 → -524288 ≤ loI op ∧ hiI op < 524288) ∧ (fmI op = 6 → -9223372036854775808 ≤ loI op ∧ hiI op ≤ 9223372036854775807) := by
    intro op
    unfold fmI loI hiI
    refine ⟨fun e => ?_, fun e => ?_, fun e => ?_, fun e => ?_⟩ <;> (constructor <;> (repeat' (first | omega | split)) <;> (repeat' (first | omega | split at e)))
  obtain ⟨k1, k2, k3, k4⟩ := key op
  refine ⟨fun e => ?_, fun e => ?_, fun e => ?_, fun e => ?_⟩
  · have := hb (by rw [e]; rfl); have := k1 e; omega
  · have := hb (by rw [e]; rfl); have := k2 e; omega
  · have := hb (by rw [e]; rfl); have := k3 e; omega
  · have := hb (by rw [e]; rfl); have := k4 e; omega
end Go.M30
namespace Go.M30
open Go.Pv Go.M29
theorem word_op {op a b c n : Int} (h : validI op a b c n = true) : word1 ⟨op, a, b, c, n⟩ % 64 = op := by
  obtain ⟨ho, ha, hb, hc, h8, h5, h7, hz⟩ := ok_fields h
  unfold word1 immW hdr
  simp only
  split
  · omega
  split
  · omega
  split <;> omega
theorem f_cases {f : Int} (h : 1 ≤ f ∧ f ≤ 8) : f = 1 ∨ f = 2 ∨ f = 3 ∨ f = 4 ∨ f = 5 ∨ f = 6 ∨ f = 7 ∨ f = 8 := by omega
/-- the fields that a form does not have are zero -/
theorem zero_fields {op a b c n : Int} (h : validI op a b c n = true) : (fA (fmI op) = false → a = 0) ∧ (fB (fmI op) = false → b = 0) ∧ (fC (fmI op) = false → c = 0) ∧ (fN (fmI op) = false → n = 0) := by
  unfold validI at h
  simp only [Bool.and_eq_true, Bool.or_eq_true, decide_eq_true_eq, beq_iff_eq, Bool.not_eq_true'] at h
  obtain ⟨⟨⟨⟨⟨⟨⟨⟨h1, h2⟩, h3⟩, h4⟩, h5⟩, h6⟩, h7⟩, h8⟩, h9⟩ := h
  refine ⟨fun e => ?_, fun e => ?_, fun e => ?_, fun e => ?_⟩
  · rw [e] at h2; simpa using h2
  · rw [e] at h3; simpa using h3
  · rw [e] at h4; simpa using h4
  · rw [e] at h5; simpa using h5
theorem decI_word {op a b c n w1 w2 : Int} (h : validI op a b c n = true) (hw : fmI op = 6 → w1 = n % 4294967296 ∧ w2 = n % 18446744073709551616 / 4294967296) : decI (word1 ⟨op, a, b, c, n⟩) w1 w2 = ⟨op, a, b, c, n⟩ := by
  have hx := word_op h
  obtain ⟨ho, ha, hb, hc, h8, h5, h7, hz⟩ := ok_fields h
  obtain ⟨n8, n5, n7, n6⟩ := n_range h
  obtain ⟨za, zb, zc, zn⟩ := zero_fields h
  unfold decI
  rw [hx]
  have hwd : word1 ⟨op, a, b, c, n⟩ = op + 64 * a + 512 * b + 4096 * c + (if fmI op = 8 then n % 67108864 * 64 else if fmI op = 5 then n % 8388608 * 512 else if fmI op = 7 then n % 1048576 * 4096 else 0) := rfl
  rw [hwd]
  have hf := f_cases (fm_range ho)
  unfold decN
  rcases hf with hf | hf | hf | hf | hf | hf | hf | hf
  all_goals simp only [hf] at *
  all_goals simp [fA, fB, fC, fN] at za zb zc zn ⊢
  · subst za zb zc zn; simp
  · subst zb zc zn; omega
  · subst zc zn; omega
  · subst zn; omega
  · subst zb zc
    have q : (op + 64 * a + 512 * 0 + 4096 * 0 + n % 8388608 * 512) / 512 = n % 8388608 := by
      rw [show op + 64 * a + 512 * 0 + 4096 * 0 + n % 8388608 * 512 = (op + 64 * a) + n % 8388608 * 512 by omega, Int.add_mul_ediv_right _ _ (by decide), Int.ediv_eq_zero_of_lt (by omega) (by omega)]
      omega
    have q2 : (op + 64 * a + 512 * 0 + 4096 * 0 + n % 8388608 * 512) / 64 = a + n % 8388608 * 8 := by
      rw [show op + 64 * a + 512 * 0 + 4096 * 0 + n % 8388608 * 512 = op + (a + n % 8388608 * 8) * 64 by omega, Int.add_mul_ediv_right _ _ (by decide), Int.ediv_eq_zero_of_lt (by omega) (by omega)]
      omega
    have n5' := n5 trivial
    clear hwd hx
    refine ⟨by omega, ?_⟩
    rw [q]
    split <;> omega
  · subst zb zc
    obtain ⟨e1, e2⟩ := hw trivial
    have n6' := n6 trivial
    clear hwd hx
    refine ⟨by omega, ?_⟩
    subst e1 e2
    unfold wide
    rw [i64w]
    omega
  · subst zc
    have q : (op + 64 * a + 512 * b + 4096 * 0 + n % 1048576 * 4096) / 4096 = n % 1048576 := by
      rw [show op + 64 * a + 512 * b + 4096 * 0 + n % 1048576 * 4096 = (op + 64 * a + 512 * b) + n % 1048576 * 4096 by omega, Int.add_mul_ediv_right _ _ (by decide), Int.ediv_eq_zero_of_lt (by omega) (by omega)]
      omega
    have q1 : (op + 64 * a + 512 * b + 4096 * 0 + n % 1048576 * 4096) / 512 = b + n % 1048576 * 8 := by
      rw [show op + 64 * a + 512 * b + 4096 * 0 + n % 1048576 * 4096 = (op + 64 * a) + (b + n % 1048576 * 8) * 512 by omega, Int.add_mul_ediv_right _ _ (by decide), Int.ediv_eq_zero_of_lt (by omega) (by omega)]
      omega
    have q2 : (op + 64 * a + 512 * b + 4096 * 0 + n % 1048576 * 4096) / 64 = a + (b + n % 1048576 * 8) * 8 := by
      rw [show op + 64 * a + 512 * b + 4096 * 0 + n % 1048576 * 4096 = op + (a + (b + n % 1048576 * 8) * 8) * 64 by omega, Int.add_mul_ediv_right _ _ (by decide), Int.ediv_eq_zero_of_lt (by omega) (by omega)]
      omega
    have n7' := n7 trivial
    clear hwd hx
    refine ⟨by omega, by omega, ?_⟩
    rw [q]
    split <;> omega
  · subst za zb zc
    have q : (op + 64 * 0 + 512 * 0 + 4096 * 0 + n % 67108864 * 64) / 64 = n % 67108864 := by
      rw [show op + 64 * 0 + 512 * 0 + 4096 * 0 + n % 67108864 * 64 = op + n % 67108864 * 64 by omega, Int.add_mul_ediv_right _ _ (by decide), Int.ediv_eq_zero_of_lt (by omega) (by omega)]
      omega
    have n8' := n8 trivial
    clear hwd hx
    rw [q]
    split <;> omega
end Go.M30
namespace Go.M30
open Go.Pv Go.M29
def insT (l : List Int) (i : Nat) : List In := (l.take i).map kin
theorem insT_len {l : List Int} {i : Nat} (h : i ≤ l.length) : (insT l i).length = i := by
  unfold insT
  simp
  omega
theorem insT_succ {l : List Int} {i : Nat} (h : i < l.length) : insT l (i + 1) = insT l i ++ [kin l[i]] := by
  unfold insT
  rw [← List.take_append_getElem h, List.map_append]
  rfl
theorem insK_end {l : List Int} {m : Int} {i : Nat} (h : i ≤ l.length) (hm : (i : Int) ≤ m) (he : i = l.length ∨ ¬ (i : Int) < m) : insK l m = insT l i := by
  unfold insK insT
  rcases he with rfl | he
  · rw [List.take_of_length_le (by omega), List.take_length]
  · rw [show m.toNat = i by omega]
theorem insK_nil {l : List Int} {m : Int} (h : l.length = 0 ∨ m ≤ 0) : insK l m = [] := by
  unfold insK
  rcases h with h | h
  · rw [List.eq_nil_of_length_eq_zero h]; simp
  · rw [show m.toNat = 0 by omega]; rfl
end Go.M30
namespace Go.M30
open Go.Pv Go.M29
theorem insK_len (l : List Int) (m : Int) : (insK l m).length ≤ m.toNat := by
  unfold insK
  simp
  omega
theorem encR_len (l : List In) : (encR l).1.length ≤ 3 * l.length := by
  unfold encR
  split
  · have := encT_le l l.length
    rwa [encT_all] at this
  · simp
end Go.M30
