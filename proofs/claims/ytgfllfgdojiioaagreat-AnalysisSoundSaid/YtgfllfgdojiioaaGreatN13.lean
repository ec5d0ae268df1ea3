import Derived.Test.YtgfllfgdojiioaaGreatM13
namespace Go.M13
def bnd (lo hi : Int) : Int × Int := if inRb lo && inRb hi then (lo, hi) else (minW, maxW)
def irem (a b c d : Int) : Int × Int := if c < 1 then (minW, maxW) else (if a < 0 then max a (1 - d) else 0, if 0 < b then min b (d - 1) else 0)
def icmp (o a b c d : Int) : Int × Int :=
 if o = 15 then tri false (!meets a b c d)
 else if o = 16 then tri (!meets a b c d) false
 else if o = 18 then tri (decide (b <= c)) (decide (d < a))
 else if o = 19 /\ (a < 0 \/ c < 0) /\ (0 <= b \/ 0 <= d) then (0, 1)
 else tri (decide (b < c)) (decide (d <= a))
def isel (a b c d e f : Int) : Int × Int :=
 if b < a \/ d < c \/ f < e then (minW, maxW)
 else if a = 0 /\ b = 0 then (e, f)
 else if contains a b 0 then (min c e, max d f) else (c, d)
theorem w64 (n : Int) : IntKind.i64.wrap n = (n + 9223372036854775808) % 18446744073709551616 - 9223372036854775808 := IntKind.wrap_i64 n
theorem sum_ok {a b : Int} (ha : inR a) (hb : inR b) : (decide (IntKind.i64.wrap (a + b) < a) == decide (b < 0)) = inRb (a + b) := by
 unfold inR at ha hb
 unfold inRb
 rw [w64]
 grind
theorem diff_ok {a b : Int} (ha : inR a) (hb : inR b) : (decide (IntKind.i64.wrap (a - b) > a) == decide (b < 0)) = inRb (a - b) := by
 unfold inR at ha hb
 unfold inRb
 rw [w64]
 grind
theorem radd_ok {a b : Int} (ha : inR a) (hb : inR b) : ((!decide (a < 0) == decide (b < 0)) || (decide (IntKind.i64.wrap (a + b) < 0) == decide (a < 0))) = inRb (a + b) := by
 unfold inR at ha hb
 unfold inRb
 rw [w64]
 grind
theorem rsub_ok {a b : Int} (ha : inR a) (hb : inR b) : ((decide (a < 0) == decide (b < 0)) || (decide (IntKind.i64.wrap (a - b) < 0) == decide (a < 0))) = inRb (a - b) := by
 unfold inR at ha hb
 unfold inRb
 rw [w64]
 grind
theorem inRb_wrap {n : Int} (h : inRb n = true) : IntKind.i64.wrap n = n := by
 unfold inRb at h
 simp at h
 exact IntWalk.i64_in _ (by omega)
theorem iand63 (c : Int) : iand c 63 = c % 64 := by
 unfold iand
 have h : (BitVec.ofInt IntKind.i64.bits c &&& BitVec.ofInt IntKind.i64.bits 63).toNat = (c % 64).toNat := by
  have e : IntKind.i64.bits = 64 := rfl
  rw [e]
  rw [BitVec.toNat_and]
  have h63 : (BitVec.ofInt 64 63).toNat = 2 ^ 6 - 1 := by decide
  rw [h63, Nat.and_two_pow_sub_one_eq_mod, BitVec.toNat_ofInt]
  omega
 rw [h, IntWalk.i64_in _ (by omega)]
 omega
theorem shBy_eq (c : Int) : shBy c = c % 64 := by
 unfold shBy
 rw [iand63]
 exact IntWalk.u64_in _ (by omega)
end Go.M13
namespace Go.M13
def bitl (n : Nat) : Nat := if n = 0 then 0 else n.log2 + 1
def ones (n : Int) : Int := ((2 ^ bitl n.toNat : Nat) : Int) - 1
def isOnes (x n : Int) : Prop := ∃ k : Nat, x = ((2 ^ k : Nat) : Int) - 1 /\ k <= 63 /\ (k = 0 \/ ((2 ^ (k - 1) : Nat) : Int) - 1 < n)
theorem isOnes_zero (n : Int) : isOnes 0 n := ⟨0, by simp, by omega, .inl rfl⟩
theorem isOnes_step {x n : Int} (h : isOnes x n) (hx : x < n) (hn : n <= 9223372036854775807) : 0 <= x /\ 2 * x + 1 <= 9223372036854775807 /\ isOnes (2 * x + 1) n := by
 obtain ⟨k, rfl, hk, _⟩ := h
 have hpos : 0 < 2 ^ k := Nat.pow_pos (by omega)
 have h63 : k <= 62 := by
  rcases Nat.lt_or_ge k 63 with q | q
  ·omega
  ·obtain rfl : k = 63 := by omega
   simp at hx
   omega
 have hle : 2 ^ k <= 2 ^ 62 := Nat.pow_le_pow_right (by omega) h63
 have h62 : (2 : Nat) ^ 62 = 4611686018427387904 := by decide
 have hs : 2 ^ (k + 1) = 2 * 2 ^ k := by rw [Nat.pow_succ]; omega
 refine ⟨by omega, by omega, k + 1, by omega, by omega, .inr ?_⟩
 simpa using hx
theorem isOnes_end {x n : Int} (h : isOnes x n) (hx : ¬ x < n) : x = ones n := by
 obtain ⟨k, rfl, hk, hc⟩ := h
 unfold ones
 suffices hb : bitl n.toNat = k by rw [hb]
 unfold bitl
 rcases Nat.eq_zero_or_pos k with hk0 | hk0
 ·subst hk0
  have : n.toNat = 0 := by simp at hx; omega
  rw [if_pos this]
 ·have hc := hc.resolve_left (by omega)
  have hpos : 0 < 2 ^ (k - 1) := Nat.pow_pos (by omega)
  have hn : n.toNat ≠ 0 := by omega
  rw [if_neg hn]
  have : n.toNat.log2 = k - 1 := (Nat.log2_eq_iff hn).2 ⟨by omega, by rw [show k - 1 + 1 = k by omega]; omega⟩
  omega
def shlw (a p : Int) : Int := IntKind.i64.wrap (a * p)
def shlk (a p : Int) : Bool := (shlw a p).fdiv p == a
def ishf (o a b c d : Int) : Int × Int :=
 if o = 12 then
  if c = d then if shlk a (2 ^ (c % 64).toNat) /\ shlk b (2 ^ (c % 64).toNat) then (shlw a (2 ^ (c % 64).toNat), shlw b (2 ^ (c % 64).toNat)) else (minW, maxW)
  else (minW, maxW)
 else if o = 14 then if c = d then (a.fdiv (2 ^ (c % 64).toNat), b.fdiv (2 ^ (c % 64).toNat)) else (min a 0, max b (-1))
 else if c = d then
  if c % 64 = 0 then (a, b)
  else if 0 <= a then (a.fdiv (2 ^ (c % 64).toNat), b.fdiv (2 ^ (c % 64).toNat))
  else (0, IntKind.i64.wrap (IntKind.i64.wrap (1 * 2 ^ (64 - c % 64).toNat) - 1))
 else if 0 <= a then (0, b) else (minW, maxW)
theorem sh63 (c : Int) : IntKind.wrap IntKind.u64 (IntKind.wrap IntKind.i64 (BitVec.toNat (BitVec.ofInt 64 c &&& BitVec.ofInt 64 63) : Int)) = c % 64 := shBy_eq c
theorem and63 (c : Int) : IntKind.wrap IntKind.i64 (BitVec.toNat (BitVec.ofInt 64 c &&& BitVec.ofInt 64 63) : Int) = c % 64 := iand63 c
theorem bits64 : IntKind.bits IntKind.i64 = 64 := rfl
theorem ubits64 : IntKind.bits IntKind.u64 = 64 := rfl
theorem mink (c : Int) : min (c % 64).toNat 64 = (c % 64).toNat := by omega
end Go.M13
namespace Go.M13
def iun (o a b : Int) : Int × Int :=
 if (o ≠ 20 /\ o ≠ 21) \/ b < a then (minW, maxW)
 else if a = b then (wun o a, wun o a)
 else if o = 21 then (inot b, inot a)
 else if a = minW then (minW, maxW)
 else (IntKind.i64.wrap (0 - b), IntKind.i64.wrap (0 - a))
end Go.M13
namespace Go.M13
theorem mul_back {a b : Int} (hb : b ≠ 0) (hbr : inR b) : ((IntKind.i64.wrap (a * b)).tdiv b == a) = inRb (a * b) := by
 by_cases hab : inRb (a * b) = true
 ·rw [inRb_wrap hab, Int.mul_tdiv_cancel _ hb, hab]; simp
 ·rw [show inRb (a * b) = false by simpa using hab]
  rw [beq_eq_false_iff_ne]
  intro h
  have h1 := Int.mul_tdiv_add_tmod (IntKind.i64.wrap (a * b)) b
  rw [h] at h1
  have h2 : (IntKind.i64.wrap (a * b)).tmod b < b.natAbs /\ -(b.natAbs : Int) < (IntKind.i64.wrap (a * b)).tmod b := by
   constructor
   ·have := Int.tmod_lt_of_pos (IntKind.i64.wrap (a * b)) (show (0:Int) < b.natAbs by omega)
    rcases Int.natAbs_eq b with e | e
    ·rw [<- e] at this; rw [<- e]; exact this
    ·have e2 : (b.natAbs : Int) = -b := by omega
     rw [e2, Int.tmod_neg] at this
     omega
   ·have := Int.lt_tmod_of_pos (IntKind.i64.wrap (a * b)) (show (0:Int) < b.natAbs by omega)
    rcases Int.natAbs_eq b with e | e
    ·rw [<- e] at this; rw [<- e]; exact this
    ·have e2 : (b.natAbs : Int) = -b := by omega
     rw [e2, Int.tmod_neg] at this
     omega
  rw [w64] at h1 h2
  unfold inR at hbr
  unfold inRb at hab
  simp only [Bool.and_eq_true, decide_eq_true_eq] at hab
  rw [Int.mul_comm b a] at h1
  omega
end Go.M13
namespace Go.M13
theorem tdiv_in {s b : Int} (hs : inR s) (hb : b ≠ 0) (hb1 : b ≠ -1) : IntKind.i64.wrap (s.tdiv b) = s.tdiv b := by
 unfold inR at hs
 apply IntWalk.i64_in
 have h1 : (s.tdiv b).natAbs = s.natAbs / b.natAbs := Int.natAbs_tdiv s b
 rcases Nat.lt_or_ge s.natAbs 9223372036854775808 with h | h
 ·have h2 : s.natAbs / b.natAbs <= s.natAbs := Nat.div_le_self _ _
  omega
 ·have e : s = -9223372036854775808 := by omega
  subst e
  rcases Nat.lt_or_ge 1 b.natAbs with hb2 | hb2
  ·have h3 : (-9223372036854775808 : Int).natAbs / b.natAbs <= 9223372036854775808 / 2 := Nat.div_le_div_left hb2 (by omega)
   omega
  ·obtain rfl : b = 1 := by omega
   simp
theorem wrap_inR (n : Int) : inR (IntKind.i64.wrap n) := by
 unfold inR
 rw [w64]
 omega
end Go.M13
