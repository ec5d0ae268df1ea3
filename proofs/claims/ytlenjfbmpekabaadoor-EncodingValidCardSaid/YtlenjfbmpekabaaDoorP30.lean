/-
  Machine words: words as instructions, in plain Lean.
  Conditions: none.
-/
import Derived.Test.YtlenjfbmpekabaaDoorO30
namespace Go.M30
open Go.Pv Go.M29
theorem bvAnd32 {x : Int} (k : Nat) (p : Int) (hp : ((2 ^ k : Nat) : Int) = p) (hk : k < 32) : bvAnd .u32 x (p - 1) = x % p := by
  unfold bvAnd
  have hpp : 0 < 2 ^ k := Nat.pow_pos (by omega)
  have hp64 : 2 ^ k ≤ 2 ^ 31 := Nat.pow_le_pow_right (by omega) (by omega)
  rw [show (2 : Nat) ^ 31 = 2147483648 by decide] at hp64
  have e : IntKind.u32.bits = 32 := rfl
  have h : (BitVec.ofInt IntKind.u32.bits x &&& BitVec.ofInt IntKind.u32.bits (p - 1)).toNat = (x % p).toNat := by
    rw [e, BitVec.toNat_and, BitVec.toNat_ofInt, BitVec.toNat_ofInt]
    have h63 : ((p - 1) % ((2 ^ 32 : Nat) : Int)).toNat = 2 ^ k - 1 := by
      rw [show ((2 ^ 32 : Nat) : Int) = 4294967296 by decide]
      omega
    rw [h63, Nat.and_two_pow_sub_one_eq_mod]
    have hd : (p : Int) ∣ ((2 ^ 32 : Nat) : Int) := by
      rw [← hp]
      exact Int.natCast_dvd_natCast.2 (Nat.pow_dvd_pow 2 (by omega))
    have h1 : (x % ((2 ^ 32 : Nat) : Int)) % p = x % p := Int.emod_emod_of_dvd x hd
    have h2 : 0 ≤ x % ((2 ^ 32 : Nat) : Int) := Int.emod_nonneg _ (by rw [show ((2 ^ 32 : Nat) : Int) = 4294967296 by decide]; omega)
    apply Int.ofNat.inj
    show (((x % ((2 ^ 32 : Nat) : Int)).toNat % 2 ^ k : Nat) : Int) = (((x % p).toNat : Nat) : Int)
    rw [Int.natCast_emod, hp, Int.toNat_of_nonneg h2, h1, Int.toNat_of_nonneg (Int.emod_nonneg _ (by omega))]
  rw [h, u32w]
  have h3 := Int.emod_nonneg x (show p ≠ 0 by omega)
  have h4 := Int.emod_lt_of_pos x (show 0 < p by omega)
  omega
theorem op_of {x : Int} : IntKind.i64.wrap (bvAnd .u32 x 63) = x % 64 := by
  rw [show (63 : Int) = 64 - 1 by decide, bvAnd32 6 64 (by decide) (by omega), i64w]
  omega
theorem reg_of {x : Int} : IntKind.i64.wrap (bvAnd .u32 x 7) = x % 8 := by
  rw [show (7 : Int) = 8 - 1 by decide, bvAnd32 3 8 (by decide) (by omega), i64w]
  omega
theorem bvOr64 {x y m : Int} (k : Nat) (p : Int) (hp : ((2 ^ k : Nat) : Int) = p) (hx : 0 ≤ x) (hx' : x < p) (hx2 : x < 18446744073709551616) (hy : y = p * m) (hm : 0 ≤ m) (hy' : y < 18446744073709551616) : bvOr .u64 x y = x + y := by
  have hpp : 0 < 2 ^ k := Nat.pow_pos (by omega)
  have hy0 : 0 ≤ y := by rw [hy]; exact Int.mul_nonneg (by omega) hm
  have bv : ∀ {a : Int}, 0 ≤ a → a < 18446744073709551616 → (BitVec.ofInt IntKind.u64.bits a).toNat = a.toNat := fun {a} h0 h1 => by
    have e : IntKind.u64.bits = 64 := rfl
    rw [e, BitVec.toNat_ofInt]
    omega
  unfold bvOr
  have e : (BitVec.ofInt IntKind.u64.bits x ||| BitVec.ofInt IntKind.u64.bits y).toNat = x.toNat + y.toNat := by
    rw [BitVec.toNat_or, bv hx hx2, bv hy0 hy', Nat.or_comm]
    have e1 : y.toNat = 2 ^ k * m.toNat := by
      apply Int.ofNat.inj
      show ((y.toNat : Nat) : Int) = ((2 ^ k * m.toNat : Nat) : Int)
      rw [Int.natCast_mul, hp]
      rw [show ((m.toNat : Nat) : Int) = m by omega]
      omega
    rw [e1, ← Nat.two_pow_add_eq_or_of_lt (by omega) m.toNat]
    omega
  have hl := (BitVec.ofInt IntKind.u64.bits x ||| BitVec.ofInt IntKind.u64.bits y).isLt
  rw [e] at hl ⊢
  have e2 : (2 : Nat) ^ IntKind.u64.bits = 18446744073709551616 := by decide
  rw [e2] at hl
  rw [u64w]
  omega
/-- the immediate of a word, read -/
def decN (x f : Int) : Int :=
  if f = 8 then (if x / 64 < 33554432 then x / 64 else x / 64 - 67108864)
  else if f = 5 then (if x / 512 < 4194304 then x / 512 else x / 512 - 8388608)
  else if f = 7 then (if x / 4096 < 524288 then x / 4096 else x / 4096 - 1048576)
  else 0
def u32b (x : Int) : Prop := 0 ≤ x ∧ x < 4294967296
theorem i32w (n : Int) : IntKind.i32.wrap n = (n + 2147483648) % 4294967296 - 2147483648 := by
  unfold IntKind.wrap
  simp [IntKind.bits, IntKind.signed]
  omega
theorem fdiv_eq (z p : Int) (hp : 0 ≤ p) : z.fdiv p = z / p := Int.fdiv_eq_ediv_of_nonneg _ hp
theorem dec_prog {x f : Int} (hx : u32b x) (hf : f = 8 ∨ f = 5 ∨ f = 7) : IntKind.i64.wrap ((IntKind.i32.wrap x).fdiv (2 ^ min (shI f).toNat 32)) = decN x f := by
  unfold u32b at hx
  rcases hf with rfl | rfl | rfl
  · rw [show (2 : Int) ^ min (shI 8).toNat 32 = 64 by decide, fdiv_eq _ _ (by omega), i32w, i64w]
    unfold decN
    rw [if_pos rfl]
    split <;> omega
  · rw [show (2 : Int) ^ min (shI 5).toNat 32 = 512 by decide, fdiv_eq _ _ (by omega), i32w, i64w]
    unfold decN
    rw [if_neg (by decide), if_pos rfl]
    split <;> omega
  · rw [show (2 : Int) ^ min (shI 7).toNat 32 = 4096 by decide, fdiv_eq _ _ (by omega), i32w, i64w]
    unfold decN
    rw [if_neg (by decide), if_neg (by decide), if_pos rfl]
    split <;> omega
/-- the constant in two words -/
def wide (w1 w2 : Int) : Int := IntKind.i64.wrap (w1 + w2 * 4294967296)
theorem wide_prog {w1 w2 : Int} (h1 : u32b w1) (h2 : u32b w2) : IntKind.i64.wrap (bvOr .u64 (IntKind.u64.wrap w1) (IntKind.u64.wrap (IntKind.u64.wrap w2 * 4294967296))) = wide w1 w2 := by
  unfold u32b at h1 h2
  rw [u64w, u64w, u64w]
  rw [show w1 % 18446744073709551616 = w1 by omega, show w2 % 18446744073709551616 * 4294967296 % 18446744073709551616 = 4294967296 * w2 by omega]
  rw [bvOr64 (m := w2) 32 4294967296 (by decide) (by omega) (by omega) (by omega) rfl (by omega) (by omega)]
  unfold wide
  congr 1
  omega
/-- the instruction that words stand for -/
def decI (x w1 w2 : Int) : In :=
  ⟨x % 64, if fA (fmI (x % 64)) then x / 64 % 8 else 0, if fB (fmI (x % 64)) then x / 512 % 8 else 0, if fmI (x % 64) = 4 then x / 4096 % 8 else 0, if fmI (x % 64) = 6 then wide w1 w2 else decN x (fmI (x % 64))⟩
def err : In × Int × Int := (⟨0, 0, 0, 0, 0⟩, 0, 204)
def dI (w : List Int) (k : Int) : In := decI (w.getD k.toNat 0) (w.getD (k.toNat + 1) 0) (w.getD (k.toNat + 2) 0)
theorem dI_def (w : List Int) (k : Int) : dI w k = decI (w.getD k.toNat 0) (w.getD (k.toNat + 1) 0) (w.getD (k.toNat + 2) 0) := rfl
def decR (w : List Int) (k : Int) : In × Int × Int :=
  if k < 0 ∨ (w.length : Int) ≤ k then err
  else if okI (w.getD k.toNat 0 % 64) = false ∨ (fmI (w.getD k.toNat 0 % 64) = 6 ∧ w.length < k.toNat + 3) then err
  else if okIn (dI w k) = true ∧ word1 (dI w k) = w.getD k.toNat 0 then (dI w k, if fmI (w.getD k.toNat 0 % 64) = 6 then 3 else 1, 0)
  else err
theorem wide_back {w1 w2 : Int} (h1 : u32b w1) (h2 : u32b w2) : wide w1 w2 % 4294967296 = w1 ∧ wide w1 w2 % 18446744073709551616 / 4294967296 = w2 := by
  unfold u32b at h1 h2
  unfold wide
  rw [i64w]
  omega
theorem encW_decI {x w1 w2 : Int} (h1 : u32b w1) (h2 : u32b w2) : encW (decI x w1 w2) = if fmI (x % 64) = 6 then [word1 (decI x w1 w2), w1, w2] else [word1 (decI x w1 w2)] := by
  unfold encW
  show (if fmI (x % 64) = 6 then _ else _) = _
  by_cases h : fmI (x % 64) = 6
  · rw [if_pos h, if_pos h]
    have e : (decI x w1 w2).n = wide w1 w2 := if_pos h
    rw [e, (wide_back h1 h2).1, (wide_back h1 h2).2]
  · rw [if_neg h, if_neg h]
theorem wd_at : ∀ k : Fin 37, (rowOf ((k : Nat) + 1)).wd = if fmI ((k : Nat) + 1) = 6 then 3 else 1 := by decide +kernel
theorem wd_eq {op : Int} (h : okI op = true) : (rowOf op).wd = if fmI op = 6 then 3 else 1 := by
  unfold okI at h
  simp only [Bool.and_eq_true, decide_eq_true_eq] at h
  have e := wd_at ⟨(op - 1).toNat, by omega⟩
  have e2 : (((op - 1).toNat : Nat) : Int) + 1 = op := by omega
  simp only [e2] at e
  exact e
end Go.M30
namespace Go.M30
open Go.Pv Go.M29
theorem nb_pos (f : Int) : 0 < nbI f ↔ f = 8 ∨ f = 5 ∨ f = 7 := by
  unfold nbI
  repeat' (first | omega | split)
theorem decN_zero {x f : Int} (h : ¬ 0 < nbI f) : decN x f = 0 := by
  rw [nb_pos] at h
  unfold decN
  rw [if_neg (by omega), if_neg (by omega), if_neg (by omega)]
theorem dec_ref {x f : Int} (hx : u32b x) (hf : 0 < nbI f) : decN x f =
    if IntKind.i64.wrap (x.fdiv (2 ^ min (atI f).toNat 32)) ≥ IntKind.i64.wrap (1 * 2 ^ min (IntKind.u64.wrap (nbI f - 1)).toNat 64) then
      IntKind.i64.wrap (IntKind.i64.wrap (x.fdiv (2 ^ min (atI f).toNat 32)) - IntKind.i64.wrap (1 * 2 ^ min (nbI f).toNat 64))
    else IntKind.i64.wrap (x.fdiv (2 ^ min (atI f).toNat 32)) := by
  rw [nb_pos] at hf
  unfold u32b at hx
  rcases hf with rfl | rfl | rfl
  · rw [show (2 : Int) ^ min (atI 8).toNat 32 = 64 by decide, show IntKind.i64.wrap (1 * 2 ^ min (IntKind.u64.wrap (nbI 8 - 1)).toNat 64) = 33554432 by decide, show IntKind.i64.wrap (1 * 2 ^ min (nbI 8).toNat 64) = 67108864 by decide, fdiv_eq _ _ (by omega)]
    simp only [i64w]
    unfold decN
    rw [if_pos rfl]
    split <;> split <;> omega
  · rw [show (2 : Int) ^ min (atI 5).toNat 32 = 512 by decide, show IntKind.i64.wrap (1 * 2 ^ min (IntKind.u64.wrap (nbI 5 - 1)).toNat 64) = 4194304 by decide, show IntKind.i64.wrap (1 * 2 ^ min (nbI 5).toNat 64) = 8388608 by decide, fdiv_eq _ _ (by omega)]
    simp only [i64w]
    unfold decN
    rw [if_neg (by decide), if_pos rfl]
    split <;> split <;> omega
  · rw [show (2 : Int) ^ min (atI 7).toNat 32 = 4096 by decide, show IntKind.i64.wrap (1 * 2 ^ min (IntKind.u64.wrap (nbI 7 - 1)).toNat 64) = 524288 by decide, show IntKind.i64.wrap (1 * 2 ^ min (nbI 7).toNat 64) = 1048576 by decide, fdiv_eq _ _ (by omega)]
    simp only [i64w]
    unfold decN
    rw [if_neg (by decide), if_neg (by decide), if_pos rfl]
    split <;> split <;> omega
theorem f_zero {op : Int} : fmI op = 0 ↔ okI op = false := by
  unfold fmI okI
  rw [Bool.and_eq_false_iff, decide_eq_false_iff_not, decide_eq_false_iff_not]
  repeat' (first | omega | split)
theorem f_range {op : Int} (h : okI op = true) : 1 ≤ fmI op ∧ fmI op ≤ 8 := by
  unfold okI at h
  simp only [Bool.and_eq_true, decide_eq_true_eq] at h
  exact fm_range h
theorem encR_one (i : In) : encR [i] = if okIn i then (encW i, 0) else ([], 204) := by
  unfold encR
  simp
theorem encW_head (i : In) : (encW i)[0]? = some (word1 i) := by
  unfold encW
  split <;> rfl
end Go.M30
