import Derived.Test.YtgfllfgdojiioaaGreatN13
import Derived.Test.YtgfllfgdojiioaaGreatPvDef
namespace Go.M13
open Go.Pv
theorem bitl_shift {n k : Nat} (h : 2 ^ k <= n) : bitl n = k + bitl (n / 2 ^ k) := by
 have hp : 0 < 2 ^ k := Nat.pow_pos (by omega)
 have hn : n ≠ 0 := by omega
 have hd : n / 2 ^ k ≠ 0 := by
  have := (Nat.le_div_iff_mul_le hp).2 (show 1 * 2 ^ k <= n by omega)
  omega
 unfold bitl
 rw [if_neg hn, if_neg hd]
 suffices hs : n.log2 = k + (n / 2 ^ k).log2 by omega
 obtain ⟨h1, h2⟩ := (Nat.log2_eq_iff hd (k := (n / 2 ^ k).log2)).1 rfl
 refine (Nat.log2_eq_iff hn).2 ⟨?_, ?_⟩
 ·rw [Nat.pow_add, Nat.mul_comm]
  exact (Nat.le_div_iff_mul_le hp).1 h1
 ·rw [Nat.add_assoc, Nat.pow_add, Nat.mul_comm (2 ^ k)]
  exact (Nat.div_lt_iff_lt_mul hp).1 h2
theorem bitl_le {n k : Nat} (h : n < 2 ^ k) : bitl n <= k := by
 unfold bitl
 split
 ·omega
 ·rename_i hn
  obtain ⟨h1, h2⟩ := (Nat.log2_eq_iff hn (k := n.log2)).1 rfl
  rcases Nat.lt_or_ge n.log2 k with q | q
  ·omega
  ·have := Nat.pow_le_pow_right (show 0 < 2 by omega) q
   omega
theorem lt_bitl (n : Nat) : n < 2 ^ bitl n := by
 unfold bitl
 split
 ·omega
 ·rename_i hn
  exact ((Nat.log2_eq_iff hn (k := n.log2)).1 rfl).2
theorem mul_parts (x y x0 x1 y0 y1 : Int) (hx : x = x1 * 4294967296 + x0) (hy : y = y1 * 4294967296 + y0) :
  x * y = (x1 * y1) * 18446744073709551616 + (x1 * y0 + x0 * y1) * 4294967296 + x0 * y0 := by
 subst hx hy
 simp only [Int.add_mul, Int.mul_add]
 have e1 : x1 * 4294967296 * (y1 * 4294967296) = (x1 * y1) * 18446744073709551616 := by
  rw [Int.mul_assoc, Int.mul_left_comm 4294967296 y1, <- Int.mul_assoc]; rfl
 have e2 : x0 * (y1 * 4294967296) = x0 * y1 * 4294967296 := by rw [Int.mul_assoc]
 have e3 : x1 * 4294967296 * y0 = x1 * y0 * 4294967296 := by rw [Int.mul_assoc, Int.mul_comm 4294967296, <- Int.mul_assoc]
 rw [e1, e2, e3]
 omega
theorem mul_bd {x y : Int} (h1 : 0 <= x) (h2 : x <= 4294967295) (h3 : 0 <= y) (h4 : y <= 4294967295) : 0 <= x * y /\ x * y <= 18446744065119617025 :=
 ⟨Int.mul_nonneg h1 h3, Int.mul_le_mul h2 h4 h3 (by omega)⟩
def mulHi (x y : Int) : Int := x * y / 18446744073709551616
theorem u64w (n : Int) : IntKind.u64.wrap n = n % 18446744073709551616 := by
 unfold IntKind.wrap
 simp [IntKind.bits, IntKind.signed]
theorem u64and32 (x : Int) : bvAnd .u64 x 4294967295 = x % 4294967296 := by
 unfold bvAnd
 have h : (BitVec.ofInt IntKind.u64.bits x &&& BitVec.ofInt IntKind.u64.bits 4294967295).toNat = (x % 4294967296).toNat := by
  have e : IntKind.u64.bits = 64 := rfl
  rw [e, BitVec.toNat_and]
  have h63 : (BitVec.ofInt 64 4294967295).toNat = 2 ^ 32 - 1 := by decide
  rw [h63, Nat.and_two_pow_sub_one_eq_mod, BitVec.toNat_ofInt]
  omega
 rw [h, u64w]
 omega
theorem mulHi_ok {x y : Int} (hx : 0 <= x) (hx' : x <= 18446744073709551615) (hy : 0 <= y) (hy' : y <= 18446744073709551615) :
  x / 4294967296 * (y / 4294967296) + (x / 4294967296 * (y % 4294967296) + x % 4294967296 * (y % 4294967296) / 4294967296) / 4294967296
   + ((x / 4294967296 * (y % 4294967296) + x % 4294967296 * (y % 4294967296) / 4294967296) % 4294967296 + x % 4294967296 * (y / 4294967296)) / 4294967296 = mulHi x y := by
 have hx0 : 0 <= x % 4294967296 /\ x % 4294967296 <= 4294967295 := by omega
 have hx1 : 0 <= x / 4294967296 /\ x / 4294967296 <= 4294967295 := by omega
 have hy0 : 0 <= y % 4294967296 /\ y % 4294967296 <= 4294967295 := by omega
 have hy1 : 0 <= y / 4294967296 /\ y / 4294967296 <= 4294967295 := by omega
 have ex : x = x / 4294967296 * 4294967296 + x % 4294967296 := by omega
 have ey : y = y / 4294967296 * 4294967296 + y % 4294967296 := by omega
 generalize x % 4294967296 = x0 at *
 generalize x / 4294967296 = x1 at *
 generalize y % 4294967296 = y0 at *
 generalize y / 4294967296 = y1 at *
 have hm := mul_parts x y x0 x1 y0 y1 ex ey
 have a := mul_bd (x := x0) (y := y0) (by omega) (by omega) (by omega) (by omega)
 have b := mul_bd (x := x0) (y := y1) (by omega) (by omega) (by omega) (by omega)
 have c := mul_bd (x := x1) (y := y0) (by omega) (by omega) (by omega) (by omega)
 unfold mulHi
 rw [hm]
 generalize x0 * y0 = p at *
 generalize x0 * y1 = q at *
 generalize x1 * y0 = r at *
 generalize x1 * y1 = s at *
 omega
theorem smul_ok {x y h : Int} (hx : inR x) (hy : inR y) (eh : h = mulHi (x % 18446744073709551616) (y % 18446744073709551616) - (if x < 0 then y else 0) - (if y < 0 then x else 0)) :
  (IntKind.i64.wrap h == (IntKind.i64.wrap (x * y)).fdiv (2 ^ 63)) = inRb (x * y) := by
 unfold inR at hx hy
 have hb : -85070591730234615865843651857942052864 <= x * y /\ x * y <= 85070591730234615865843651857942052864 := by
  have h1 : (x * y).natAbs <= 85070591730234615865843651857942052864 := by
   rw [Int.natAbs_mul]
   exact Nat.mul_le_mul (show x.natAbs <= 9223372036854775808 by omega) (show y.natAbs <= 9223372036854775808 by omega)
  omega
 have e63 : ∀ z : Int, z.fdiv (2 ^ 63) = z / 9223372036854775808 := fun z => by
  rw [show (2 : Int) ^ 63 = 9223372036854775808 by decide]
  exact Int.fdiv_eq_ediv_of_nonneg _ (by omega)
 have hh : h = x * y / 18446744073709551616 \/ h = x * y / 18446744073709551616 + 18446744073709551616 := by
  rw [eh]
  unfold mulHi
  rcases Int.lt_or_le x 0 with p | p <;> rcases Int.lt_or_le y 0 with q | q
  ·rw [if_pos p, if_pos q, show x % 18446744073709551616 = x + 18446744073709551616 by omega, show y % 18446744073709551616 = y + 18446744073709551616 by omega,
    show (x + 18446744073709551616) * (y + 18446744073709551616) = x * y + 18446744073709551616 * x + 18446744073709551616 * y + 340282366920938463463374607431768211456 by grind]
   right
   omega
  ·rw [if_pos p, if_neg (by omega), show x % 18446744073709551616 = x + 18446744073709551616 by omega, show y % 18446744073709551616 = y by omega,
    show (x + 18446744073709551616) * y = x * y + 18446744073709551616 * y by grind]
   left
   omega
  ·rw [if_neg (by omega), if_pos q, show x % 18446744073709551616 = x by omega, show y % 18446744073709551616 = y + 18446744073709551616 by omega,
    show x * (y + 18446744073709551616) = x * y + 18446744073709551616 * x by grind]
   left
   omega
  ·rw [if_neg (by omega), if_neg (by omega), show x % 18446744073709551616 = x by omega, show y % 18446744073709551616 = y by omega]
   left
   omega
 rw [e63, w64, w64]
 unfold inRb
 generalize x * y = z at *
 rw [Bool.eq_iff_iff]
 simp only [beq_iff_eq, Bool.and_eq_true, decide_eq_true_eq]
 omega
theorem mul64_plain {x y : Int} (hx : 0 <= x) (hx' : x <= 18446744073709551615) (hy : 0 <= y) (hy' : y <= 18446744073709551615) :
  IntKind.wrap IntKind.u64
     (IntKind.wrap IntKind.u64
       (IntKind.wrap IntKind.u64 (Int.fdiv x (4294967296 : Int) * Int.fdiv y (4294967296 : Int)) +
        Int.fdiv
         (IntKind.wrap IntKind.u64
          (IntKind.wrap IntKind.u64 (Int.fdiv x (4294967296 : Int) * bvAnd IntKind.u64 y (4294967295 : Int)) +
           Int.fdiv (IntKind.wrap IntKind.u64 (bvAnd IntKind.u64 x (4294967295 : Int) * bvAnd IntKind.u64 y (4294967295 : Int))) (4294967296 : Int)))
         (4294967296 : Int)) +
      Int.fdiv
       (IntKind.wrap IntKind.u64
        (bvAnd IntKind.u64
          (IntKind.wrap IntKind.u64
           (IntKind.wrap IntKind.u64 (Int.fdiv x (4294967296 : Int) * bvAnd IntKind.u64 y (4294967295 : Int)) +
            Int.fdiv (IntKind.wrap IntKind.u64 (bvAnd IntKind.u64 x (4294967295 : Int) * bvAnd IntKind.u64 y (4294967295 : Int))) (4294967296 : Int)))
          (4294967295 : Int) +
         IntKind.wrap IntKind.u64 (bvAnd IntKind.u64 x (4294967295 : Int) * Int.fdiv y (4294967296 : Int))))
       (4294967296 : Int)) = mulHi x y := by
 have f : ∀ z : Int, z.fdiv 4294967296 = z / 4294967296 := fun z => Int.fdiv_eq_ediv_of_nonneg _ (by omega)
 rw [<- mulHi_ok hx hx' hy hy']
 simp only [u64and32, f, u64w]
 have hx0 : 0 <= x % 4294967296 /\ x % 4294967296 <= 4294967295 := by omega
 have hx1 : 0 <= x / 4294967296 /\ x / 4294967296 <= 4294967295 := by omega
 have hy0 : 0 <= y % 4294967296 /\ y % 4294967296 <= 4294967295 := by omega
 have hy1 : 0 <= y / 4294967296 /\ y / 4294967296 <= 4294967295 := by omega
 generalize x % 4294967296 = x0 at *
 generalize x / 4294967296 = x1 at *
 generalize y % 4294967296 = y0 at *
 generalize y / 4294967296 = y1 at *
 have a := mul_bd hx0.1 hx0.2 hy0.1 hy0.2
 have b := mul_bd hx0.1 hx0.2 hy1.1 hy1.2
 have c := mul_bd hx1.1 hx1.2 hy0.1 hy0.2
 have d := mul_bd hx1.1 hx1.2 hy1.1 hy1.2
 generalize x0 * y0 = p at *
 generalize x0 * y1 = q at *
 generalize x1 * y0 = r at *
 generalize x1 * y1 = s at *
 have hp : p % 18446744073709551616 = p := by omega
 have hq : q % 18446744073709551616 = q := by omega
 have hr : r % 18446744073709551616 = r := by omega
 have hs : s % 18446744073709551616 = s := by omega
 rw [hp, hq, hr, hs]
 have ht : (r + p / 4294967296) % 18446744073709551616 = r + p / 4294967296 := by omega
 rw [ht]
 omega
theorem mul_wrap (a b : Int) : IntKind.i64.wrap (IntKind.u64.wrap (IntKind.u64.wrap a * IntKind.u64.wrap b)) = IntKind.i64.wrap (a * b) := by
 rw [u64w, u64w, u64w, <- Int.mul_emod, w64, w64]
 omega
theorem wrap_sub1 (a b : Int) : IntKind.i64.wrap (IntKind.i64.wrap a - b) = IntKind.i64.wrap (a - b) := by
 rw [w64, w64, w64]
 omega
theorem wrap_wrap (a : Int) : IntKind.i64.wrap (IntKind.i64.wrap a) = IntKind.i64.wrap a := by
 rw [w64, w64]
 omega
theorem bitl_int {x : Int} (k p : Nat) (hp : 2 ^ k = p) (h : (p : Int) <= x) : bitl x.toNat = k + bitl (x / p).toNat := by
 subst hp
 have hx : 0 <= x := by
  have : 0 < 2 ^ k := Nat.pow_pos (by omega)
  omega
 obtain ⟨n, rfl⟩ := Int.eq_ofNat_of_zero_le hx
 rw [bitl_shift (n := (n : Int).toNat) (k := k) (by omega)]
 congr 2
theorem smul_ok' {x y h : Int} (hx : inR x) (hy : inR y) (eh : h = mulHi (IntKind.u64.wrap x) (IntKind.u64.wrap y) - (if x < 0 then y else 0) - (if y < 0 then x else 0)) :
  (IntKind.i64.wrap h == (IntKind.i64.wrap (x * y)).fdiv 9223372036854775808) = inRb (x * y) := by
 rw [u64w, u64w] at eh
 have := smul_ok hx hy eh
 rwa [show (2 : Int) ^ 63 = 9223372036854775808 by decide] at this
def ibit' (o a b c d : Int) : Int × Int :=
 if o = 9 then if 0 <= a /\ 0 <= c then (0, min b d) else if 0 <= a then (0, b) else if 0 <= c then (0, d) else (minW, maxW)
 else if a < 0 \/ c < 0 then (minW, maxW)
 else (if o = 10 then max a c else 0, ones (max b d))
theorem ones_ok {m : Int} (h0 : 0 <= m) (h1 : m <= 9223372036854775807) :
  IntKind.i64.wrap (IntKind.i64.wrap (1 * 2 ^ (min (IntKind.u64.wrap (bitl m.toNat : Int)).toNat 64)) - 1) = ones m := by
 have hb : bitl m.toNat <= 63 := bitl_le (show m.toNat < 2 ^ 63 by rw [show (2:Nat) ^ 63 = 9223372036854775808 by decide]; omega)
 rw [u64w]
 have e1 : (min ((bitl m.toNat : Int) % 18446744073709551616).toNat 64) = bitl m.toNat := by omega
 rw [e1]
 unfold ones
 have hp : 2 ^ bitl m.toNat <= 2 ^ 63 := Nat.pow_le_pow_right (by omega) hb
 rw [show (2:Nat) ^ 63 = 9223372036854775808 by decide] at hp
 have hq : 0 < 2 ^ bitl m.toNat := Nat.pow_pos (by omega)
 have e2 : ((2:Int) ^ bitl m.toNat) = ((2 ^ bitl m.toNat : Nat) : Int) := by simp
 rw [e2]
 generalize 2 ^ bitl m.toNat = k at *
 rw [w64, w64]
 omega
def min4 (a b c d : Int) : Int := min (min a b) (min c d)
def max4 (a b c d : Int) : Int := max (max a b) (max c d)
def imul (a b c d : Int) : Int × Int :=
 if inRb (a * c) && inRb (a * d) && inRb (b * c) && inRb (b * d) then (min4 (a * c) (a * d) (b * c) (b * d), max4 (a * c) (a * d) (b * c) (b * d)) else (minW, maxW)
def idiv (a b c d : Int) : Int × Int :=
 if c < 1 then (minW, maxW) else (min4 (a.tdiv c) (a.tdiv d) (b.tdiv c) (b.tdiv d), max4 (a.tdiv c) (a.tdiv d) (b.tdiv c) (b.tdiv d))
def ibin (o a b c d : Int) : Int × Int :=
 if o < 4 \/ 19 < o \/ b < a \/ d < c then (minW, maxW)
 else if a = b /\ c = d then (wbin o a c, wbin o a c)
 else if o = 4 then bnd (a + c) (b + d)
 else if o = 5 then bnd (a - d) (b - c)
 else if o = 6 then imul a b c d
 else if o = 7 then idiv a b c d
 else if o = 8 then irem a b c d
 else if o = 9 \/ o = 10 \/ o = 11 then ibit' o a b c d
 else if o = 12 \/ o = 13 \/ o = 14 then ishf o a b c d
 else icmp o a b c d
end Go.M13
