/-
  Machine words: instructions as words, in plain Lean.
  Conditions: none.
-/
import Derived.Test.YtlenjfbmpekabaaDoorN29
import Derived.Test.YtlenjfbmpekabaaDoorPvDef
namespace Go.M30
open Go.Pv Go.M29
theorem u32w (n : Int) : IntKind.u32.wrap n = n % 4294967296 := by
  unfold IntKind.wrap
  simp [IntKind.bits, IntKind.signed]
theorem u64w (n : Int) : IntKind.u64.wrap n = n % 18446744073709551616 := by
  unfold IntKind.wrap
  simp [IntKind.bits, IntKind.signed]
theorem i64w (n : Int) : IntKind.i64.wrap n = (n + 9223372036854775808) % 18446744073709551616 - 9223372036854775808 := IntKind.wrap_i64 n
theorem bv32 {a : Int} (h0 : 0 ≤ a) (h1 : a < 4294967296) : (BitVec.ofInt IntKind.u32.bits a).toNat = a.toNat := by
  have e : IntKind.u32.bits = 32 := rfl
  rw [e, BitVec.toNat_ofInt]
  omega
theorem bvOr_add {x y m : Int} (k : Nat) (p : Int) (hp : ((2 ^ k : Nat) : Int) = p) (hx : 0 ≤ x) (hx' : x < p) (hx2 : x < 4294967296) (hy : y = p * m) (hm : 0 ≤ m) (hy' : y < 4294967296) : bvOr .u32 x y = x + y := by
  have hpp : 0 < 2 ^ k := Nat.pow_pos (by omega)
  have hy0 : 0 ≤ y := by rw [hy]; exact Int.mul_nonneg (by omega) hm
  unfold bvOr
  have e : (BitVec.ofInt IntKind.u32.bits x ||| BitVec.ofInt IntKind.u32.bits y).toNat = x.toNat + y.toNat := by
    rw [BitVec.toNat_or, bv32 hx hx2, bv32 hy0 hy', Nat.or_comm]
    have e1 : y.toNat = 2 ^ k * m.toNat := by
      apply Int.ofNat.inj
      show ((y.toNat : Nat) : Int) = ((2 ^ k * m.toNat : Nat) : Int)
      rw [Int.natCast_mul, hp]
      rw [show ((m.toNat : Nat) : Int) = m by omega]
      omega
    rw [e1, ← Nat.two_pow_add_eq_or_of_lt (by omega) m.toNat]
    omega
  have hl := (BitVec.ofInt IntKind.u32.bits x ||| BitVec.ofInt IntKind.u32.bits y).isLt
  rw [e] at hl ⊢
  have e2 : (2 : Nat) ^ IntKind.u32.bits = 4294967296 := by decide
  rw [e2] at hl
  rw [u32w]
  omega
theorem bvOr_zero {x : Int} (hx : 0 ≤ x) (hx2 : x < 4294967296) : bvOr .u32 x 0 = x := by
  have := bvOr_add (x := x) (y := 0) (m := 0) 32 4294967296 (by decide) hx hx2 hx2 (by omega) (by omega) (by omega)
  omega
/-- the head of a word -/
def hdr (op a b c : Int) : Int := op + 64 * a + 512 * b + 4096 * c
theorem hdr_ok {op a b c : Int} (ho : 0 ≤ op ∧ op ≤ 63) (ha : 0 ≤ a ∧ a ≤ 7) (hb : 0 ≤ b ∧ b ≤ 7) (hc : 0 ≤ c ∧ c ≤ 7) :
    bvOr .u32 (bvOr .u32 (bvOr .u32 (IntKind.u32.wrap op) (IntKind.u32.wrap (IntKind.u32.wrap a * 64))) (IntKind.u32.wrap (IntKind.u32.wrap b * 512))) (IntKind.u32.wrap (IntKind.u32.wrap c * 4096)) = hdr op a b c := by
  simp only [u32w]
  have h1 : op % 4294967296 = op := by omega
  have h2 : a % 4294967296 * 64 % 4294967296 = 64 * a := by omega
  have h3 : b % 4294967296 * 512 % 4294967296 = 512 * b := by omega
  have h4 : c % 4294967296 * 4096 % 4294967296 = 4096 * c := by omega
  rw [h1, h2, h3, h4, bvOr_add (x := op) 6 64 (by decide) (by omega) (by omega) (by omega) rfl (by omega) (by omega),
    bvOr_add (x := op + 64 * a) 9 512 (by decide) (by omega) (by omega) (by omega) rfl (by omega) (by omega),
    bvOr_add (x := op + 64 * a + 512 * b) 12 4096 (by decide) (by omega) (by omega) (by omega) rfl (by omega) (by omega)]
  rfl
/-- the immediate of a word -/
def immW (op n : Int) : Int := if fmI op = 8 then n % 67108864 * 64 else if fmI op = 5 then n % 8388608 * 512 else if fmI op = 7 then n % 1048576 * 4096 else 0
def word1 (x : In) : Int := hdr x.op x.a x.b x.c + immW x.op x.n
def encW (x : In) : List Int := if fmI x.op = 6 then [word1 x, x.n % 4294967296, x.n % 18446744073709551616 / 4294967296] else [word1 x]
def shI (f : Int) : Int := if f = 8 then 6 else if f = 5 then 9 else if f = 7 then 12 else 32
def okIn (x : In) : Bool := validI x.op x.a x.b x.c x.n
/-- what a valid instruction's fields are -/
theorem ok_fields {op a b c n : Int} (h : validI op a b c n = true) :
    (1 ≤ op ∧ op ≤ 37) ∧ (0 ≤ a ∧ a ≤ 7) ∧ (0 ≤ b ∧ b ≤ 7) ∧ (0 ≤ c ∧ c ≤ 7) ∧ (fmI op = 8 → a = 0 ∧ b = 0 ∧ c = 0) ∧ (fmI op = 5 → b = 0 ∧ c = 0) ∧ (fmI op = 7 → c = 0) ∧
    (fmI op ≠ 5 → fmI op ≠ 6 → fmI op ≠ 7 → fmI op ≠ 8 → n = 0) := by
  have ho : 1 ≤ op ∧ op ≤ 37 := by
    by_cases q : 1 ≤ op ∧ op ≤ 37
    · exact q
    · unfold validI at h
      rw [okI_out q] at h
      simp at h
  have hf := fm_range ho
  unfold validI fA fB fC fN at h
  simp only [Bool.and_eq_true, Bool.or_eq_true, decide_eq_true_eq, beq_iff_eq, Bool.not_eq_true', Bool.or_eq_false_iff, beq_eq_false_iff_ne] at h
  obtain ⟨⟨⟨⟨⟨⟨⟨⟨h1, h2⟩, h3⟩, h4⟩, h5⟩, h6⟩, h7⟩, h8⟩, h9⟩ := h
  have h6' : a ≤ 7 := by have := h6.2; split at this <;> omega
  refine ⟨ho, ⟨h6.1, h6'⟩, h7, h8, fun e => ?_, fun e => ?_, fun e => ?_, fun e1 e2 e3 e4 => ?_⟩ <;> omega
theorem word_prog {op a b c n : Int} (h : validI op a b c n = true) (hf6 : fmI op ≠ 6) :
    bvOr .u32 (hdr op a b c) (IntKind.u32.wrap (IntKind.u32.wrap n * 2 ^ (min (shI (fmI op)).toNat 32))) = word1 ⟨op, a, b, c, n⟩ := by
  obtain ⟨ho, ha, hb, hc, h8, h5, h7, hz⟩ := ok_fields h
  unfold word1 immW shI hdr
  simp only [u32w]
  by_cases f8 : fmI op = 8
  · obtain ⟨rfl, rfl, rfl⟩ := h8 f8
    rw [if_pos f8, if_pos f8]
    have e : (2 : Int) ^ min (Int.toNat 6) 32 = 64 := by decide
    rw [e, bvOr_add (m := n % 67108864) 6 64 (by decide) (by omega) (by omega) (by omega) (by omega) (by omega) (by omega)]
    omega
  by_cases f5 : fmI op = 5
  · obtain ⟨rfl, rfl⟩ := h5 f5
    rw [if_neg f8, if_pos f5, if_neg f8, if_pos f5]
    have e : (2 : Int) ^ min (Int.toNat 9) 32 = 512 := by decide
    rw [e, bvOr_add (m := n % 8388608) 9 512 (by decide) (by omega) (by omega) (by omega) (by omega) (by omega) (by omega)]
    omega
  by_cases f7 : fmI op = 7
  · obtain rfl := h7 f7
    rw [if_neg f8, if_neg f5, if_pos f7, if_neg f8, if_neg f5, if_pos f7]
    have e : (2 : Int) ^ min (Int.toNat 12) 32 = 4096 := by decide
    rw [e, bvOr_add (m := n % 1048576) 12 4096 (by decide) (by omega) (by omega) (by omega) (by omega) (by omega) (by omega)]
    omega
  · rw [if_neg f8, if_neg f5, if_neg f7, if_neg f8, if_neg f5, if_neg f7]
    have hn := hz f5 hf6 f7 f8
    subst hn
    rw [show (0 : Int) % 4294967296 * 2 ^ (min (Int.toNat 32) 32) % 4294967296 = 0 by simp]
    exact (bvOr_zero (by omega) (by omega)).trans (by omega)
/-- the reference's way -/
def atI (f : Int) : Int := if f = 8 then 6 else if f = 5 then 9 else if f = 7 then 12 else 0
def nbI (f : Int) : Int := if f = 8 then 26 else if f = 5 then 23 else if f = 7 then 20 else 0
theorem bvAnd_mask {x : Int} (k : Nat) (p : Int) (hp : ((2 ^ k : Nat) : Int) = p) (hk : k < 64) : bvAnd .u64 x (p - 1) = x % p := by
  unfold bvAnd
  have hpp : 0 < 2 ^ k := Nat.pow_pos (by omega)
  have hp64 : 2 ^ k ≤ 2 ^ 63 := Nat.pow_le_pow_right (by omega) (by omega)
  rw [show (2 : Nat) ^ 63 = 9223372036854775808 by decide] at hp64
  have e : IntKind.u64.bits = 64 := rfl
  have h : (BitVec.ofInt IntKind.u64.bits x &&& BitVec.ofInt IntKind.u64.bits (p - 1)).toNat = (x % p).toNat := by
    rw [e, BitVec.toNat_and, BitVec.toNat_ofInt, BitVec.toNat_ofInt]
    have h63 : ((p - 1) % ((2 ^ 64 : Nat) : Int)).toNat = 2 ^ k - 1 := by
      rw [show ((2 ^ 64 : Nat) : Int) = 18446744073709551616 by decide]
      omega
    rw [h63, Nat.and_two_pow_sub_one_eq_mod]
    have hd : (p : Int) ∣ ((2 ^ 64 : Nat) : Int) := by
      rw [← hp]
      exact Int.natCast_dvd_natCast.2 (Nat.pow_dvd_pow 2 (by omega))
    have h1 : (x % ((2 ^ 64 : Nat) : Int)) % p = x % p := Int.emod_emod_of_dvd x hd
    have h2 : 0 ≤ x % ((2 ^ 64 : Nat) : Int) := Int.emod_nonneg _ (by rw [show ((2 ^ 64 : Nat) : Int) = 18446744073709551616 by decide]; omega)
    apply Int.ofNat.inj
    show (((x % ((2 ^ 64 : Nat) : Int)).toNat % 2 ^ k : Nat) : Int) = (((x % p).toNat : Nat) : Int)
    rw [Int.natCast_emod, hp, Int.toNat_of_nonneg h2, h1, Int.toNat_of_nonneg (Int.emod_nonneg _ (by omega))]
  rw [h, u64w]
  have h3 := Int.emod_nonneg x (show p ≠ 0 by omega)
  have h4 := Int.emod_lt_of_pos x (show 0 < p by omega)
  omega
theorem word_ref {op a b c n : Int} (h : validI op a b c n = true) (hf : 0 < nbI (fmI op)) :
    bvOr .u32 (hdr op a b c) (IntKind.u32.wrap (IntKind.u32.wrap (bvAnd .u64 (IntKind.u64.wrap n) (IntKind.u64.wrap (IntKind.u64.wrap (1 * 2 ^ min (nbI (fmI op)).toNat 64) - 1))) * 2 ^ (min (atI (fmI op)).toNat 32))) = word1 ⟨op, a, b, c, n⟩ := by
  obtain ⟨ho, ha, hb, hc, h8, h5, h7, hz⟩ := ok_fields h
  unfold word1 immW hdr
  by_cases f8 : fmI op = 8
  · obtain ⟨rfl, rfl, rfl⟩ := h8 f8
    rw [if_pos f8, show nbI (fmI op) = 26 by unfold nbI; rw [if_pos f8], show atI (fmI op) = 6 by unfold atI; rw [if_pos f8]]
    have e : (2 : Int) ^ min (Int.toNat 6) 32 = 64 := by decide
    have e2 : IntKind.u64.wrap (IntKind.u64.wrap (1 * 2 ^ min (Int.toNat 26) 64) - 1) = 67108864 - 1 := by decide
    rw [e, e2, bvAnd_mask 26 67108864 (by decide) (by omega), u64w]
    simp only [u32w]
    rw [bvOr_add (m := n % 67108864) 6 64 (by decide) (by omega) (by omega) (by omega) (by omega) (by omega) (by omega)]
    omega
  by_cases f5 : fmI op = 5
  · obtain ⟨rfl, rfl⟩ := h5 f5
    rw [if_neg f8, if_pos f5, show nbI (fmI op) = 23 by unfold nbI; rw [if_neg f8, if_pos f5], show atI (fmI op) = 9 by unfold atI; rw [if_neg f8, if_pos f5]]
    have e : (2 : Int) ^ min (Int.toNat 9) 32 = 512 := by decide
    have e2 : IntKind.u64.wrap (IntKind.u64.wrap (1 * 2 ^ min (Int.toNat 23) 64) - 1) = 8388608 - 1 := by decide
    rw [e, e2, bvAnd_mask 23 8388608 (by decide) (by omega), u64w]
    simp only [u32w]
    rw [bvOr_add (m := n % 8388608) 9 512 (by decide) (by omega) (by omega) (by omega) (by omega) (by omega) (by omega)]
    omega
  by_cases f7 : fmI op = 7
  · obtain rfl := h7 f7
    rw [if_neg f8, if_neg f5, if_pos f7, show nbI (fmI op) = 20 by unfold nbI; rw [if_neg f8, if_neg f5, if_pos f7], show atI (fmI op) = 12 by unfold atI; rw [if_neg f8, if_neg f5, if_pos f7]]
    have e : (2 : Int) ^ min (Int.toNat 12) 32 = 4096 := by decide
    have e2 : IntKind.u64.wrap (IntKind.u64.wrap (1 * 2 ^ min (Int.toNat 20) 64) - 1) = 1048576 - 1 := by decide
    rw [e, e2, bvAnd_mask 20 1048576 (by decide) (by omega), u64w]
    simp only [u32w]
    rw [bvOr_add (m := n % 1048576) 12 4096 (by decide) (by omega) (by omega) (by omega) (by omega) (by omega) (by omega)]
    omega
  · unfold nbI at hf
    rw [if_neg f8, if_neg f5, if_neg f7] at hf
    omega
theorem word_ref0 {op a b c n : Int} (hf : ¬ 0 < nbI (fmI op)) : hdr op a b c = word1 ⟨op, a, b, c, n⟩ := by
  unfold word1 immW
  unfold nbI at hf
  by_cases f8 : fmI op = 8
  · rw [if_pos f8] at hf; omega
  by_cases f5 : fmI op = 5
  · rw [if_neg f8, if_pos f5] at hf; omega
  by_cases f7 : fmI op = 7
  · rw [if_neg f8, if_neg f5, if_pos f7] at hf; omega
  rw [if_neg f8, if_neg f5, if_neg f7]
  simp
theorem word_wide {op a b c n : Int} (hf : fmI op = 6) : hdr op a b c = word1 ⟨op, a, b, c, n⟩ := by
  refine word_ref0 ?_
  unfold nbI
  rw [hf]
  decide
end Go.M30
namespace Go.M30
open Go.Pv Go.M29
theorem fm6_iff (op : Int) : fmI op = 6 ↔ op = 14 := by
  unfold fmI
  repeat' (first | omega | split)
/-- the words of a list of instructions, or an error -/
def encR (l : List In) : List Int × Int := if l.all okIn then (l.flatMap encW, 0) else ([], 204)
/-- the words of the first i -/
def encT (l : List In) (i : Nat) : List Int := (l.take i).flatMap encW
theorem encW_pos (x : In) : 1 ≤ (encW x).length ∧ (encW x).length ≤ 3 := by
  unfold encW
  split <;> simp
theorem encT_succ {l : List In} {i : Nat} (h : i < l.length) : encT l (i + 1) = encT l i ++ encW l[i] := by
  unfold encT
  rw [← List.take_append_getElem h, List.flatMap_append]
  simp
theorem encT_le (l : List In) (i : Nat) : (encT l i).length ≤ 3 * i := by
  induction i with
  | zero => simp [encT]
  | succ i ih =>
    rcases Nat.lt_or_ge i l.length with h | h
    · rw [encT_succ h, List.length_append]
      have := (encW_pos l[i]).2
      omega
    · have : encT l (i + 1) = encT l i := by
        unfold encT
        rw [List.take_of_length_le (by omega), List.take_of_length_le (by omega)]
      rw [this]
      omega
theorem encT_all (l : List In) : encT l l.length = l.flatMap encW := by
  unfold encT
  rw [List.take_length]
theorem all_of {l : List In} (h : ∀ j (q : j < l.length), okIn l[j] = true) : l.all okIn = true := by
  rw [List.all_eq_true]
  intro x hx
  obtain ⟨j, hj, rfl⟩ := List.getElem_of_mem hx
  exact h j hj
theorem not_all {l : List In} {i : Nat} (q : i < l.length) (h : okIn l[i] = false) : l.all okIn = false := by
  rw [List.all_eq_false]
  exact ⟨l[i], List.getElem_mem q, by simp [h]⟩
end Go.M30
namespace Go.M30
open Go.Pv Go.M29
/-- the reference's words -/
theorem renc_words {op a b c n : Int} (hv : validI op a b c n = true) :
    (0 < nbI (fmI op) → op ≠ 14 ∧ encW ⟨op, a, b, c, n⟩ = [bvOr .u32 (bvOr .u32 (bvOr .u32 (bvOr .u32 (IntKind.u32.wrap op) (IntKind.u32.wrap (IntKind.u32.wrap a * 64))) (IntKind.u32.wrap (IntKind.u32.wrap b * 512))) (IntKind.u32.wrap (IntKind.u32.wrap c * 4096)))
      (IntKind.u32.wrap (IntKind.u32.wrap (bvAnd .u64 (IntKind.u64.wrap n) (IntKind.u64.wrap (IntKind.u64.wrap (1 * 2 ^ min (nbI (fmI op)).toNat 64) - 1))) * 2 ^ (min (atI (fmI op)).toNat 32)))]) ∧
    (¬ 0 < nbI (fmI op) →
      (op = 14 → encW ⟨op, a, b, c, n⟩ = [bvOr .u32 (bvOr .u32 (bvOr .u32 (IntKind.u32.wrap op) (IntKind.u32.wrap (IntKind.u32.wrap a * 64))) (IntKind.u32.wrap (IntKind.u32.wrap b * 512))) (IntKind.u32.wrap (IntKind.u32.wrap c * 4096)),
        IntKind.u32.wrap (IntKind.u64.wrap n), IntKind.u32.wrap (Int.fdiv (IntKind.u64.wrap n) 4294967296)]) ∧
      (op ≠ 14 → encW ⟨op, a, b, c, n⟩ = [bvOr .u32 (bvOr .u32 (bvOr .u32 (IntKind.u32.wrap op) (IntKind.u32.wrap (IntKind.u32.wrap a * 64))) (IntKind.u32.wrap (IntKind.u32.wrap b * 512))) (IntKind.u32.wrap (IntKind.u32.wrap c * 4096))])) := by
  obtain ⟨ho, ha, hb, hc, _⟩ := ok_fields hv
  rw [hdr_ok (by omega) ha hb hc]
  have h6 := fm6_iff op
  refine ⟨fun hn => ?_, fun hn => ⟨fun h14 => ?_, fun h14 => ?_⟩⟩
  · have hne : fmI op ≠ 6 := fun e => by
      unfold nbI at hn
      rw [e] at hn
      simp at hn
    refine ⟨fun e => hne (h6.2 e), ?_⟩
    rw [word_ref hv hn]
    exact if_neg hne
  · have e6 := h6.2 h14
    have e2 : IntKind.u32.wrap (Int.fdiv (IntKind.u64.wrap n) 4294967296) = n % 18446744073709551616 / 4294967296 := by
      rw [u64w, u32w, Int.fdiv_eq_ediv_of_nonneg _ (by omega)]
      omega
    have e3 : IntKind.u32.wrap (IntKind.u64.wrap n) = n % 4294967296 := by
      rw [u64w, u32w]
      omega
    rw [word_wide (n := n) e6, e2, e3]
    exact if_pos e6
  · have hne : fmI op ≠ 6 := fun e => h14 (h6.1 e)
    rw [word_ref0 (n := n) hn]
    exact if_neg hne
theorem nb_nonneg (f : Int) : 0 ≤ nbI f ∧ 0 ≤ atI f := by
  unfold nbI atI
  constructor <;> repeat' (first | omega | split)
end Go.M30
