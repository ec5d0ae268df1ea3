import Derived.IntWalk
namespace Go.M13
def edges : List Int := [0, 1, -1, 2, -9223372036854775808, 9223372036854775807, 4294967296, -2147483648, 63, 64]
def word (n raw : Int) : Int :=
 if n % 24 < 10 then edges.getD (n % 24).toNat 0
 else if n % 24 < 22 then IntKind.i64.wrap (n.tdiv 24) % 17 - 6
 else raw
def ival (a b p q : Int) : Int × Int :=
 if word b q < word a p /\ 0 < a % 31 then (word b q, word a p) else (word a p, word b q)
def contains (a b n : Int) : Bool := decide (a <= n) && decide (n <= b)
def wlo (a c : Int) : Int := if c < a then -9223372036854775808 else a
def whi (b d : Int) : Int := if d > b then 9223372036854775807 else b
def meets (a b c d : Int) : Bool := decide (max a c <= min b d)
def isect (a b c d : Int) : Int × Int := if meets a b c d then (max a c, min b d) else (0, 0)
end Go.M13
namespace Go.M13
theorem tmod_cases (n m : Int) (h : 0 < m) : (n.tmod m < 0 /\ n.tmod m + m = n % m /\ 0 < n % m /\ n % m < m) \/ (0 <= n.tmod m /\ n.tmod m = n % m) := by
 have h1 : n % m = if 0 <= n \/ m ∣ n then n.tmod m else n.tmod m + m := by
  rw [Int.tmod_eq_emod]
  split <;> rename_i hc
  ·omega
  ·rw [show (m.natAbs : Int) = m by omega]; omega
 have h2 := Int.emod_nonneg n (show m ≠ 0 by omega)
 have h3 := Int.emod_lt_of_pos n h
 split at h1
 ·right; omega
 ·rename_i hc
  have : n % m ≠ 0 := fun e => hc (.inr (Int.dvd_of_emod_eq_zero e))
  left; omega
theorem edge_at (n : Int) (h : n % 24 < 10) : ∃ e, edges[(n % 24).toNat]? = some e /\ edges.getD (n % 24).toNat 0 = e := by
 have hl : (n % 24).toNat < edges.length := by
  have : edges.length = 10 := rfl
  omega
 exact ⟨edges[(n % 24).toNat], List.getElem?_eq_getElem hl, by simp [List.getD_eq_getElem?_getD, List.getElem?_eq_getElem hl]⟩
end Go.M13
namespace Go.M13
abbrev minW : Int := -9223372036854775808
abbrev maxW : Int := 9223372036854775807
def inR (n : Int) : Prop := -9223372036854775808 <= n /\ n <= 9223372036854775807
def inRb (n : Int) : Bool := decide (-9223372036854775808 <= n) && decide (n <= 9223372036854775807)
def tri (b c : Bool) : Int × Int := if b then (1, 1) else if c then (0, 0) else (0, 1)
def inot (a : Int) : Int := IntKind.i64.wrap (BitVec.ofInt IntKind.i64.bits (if IntKind.i64.signed = true then (-1 : Int) else IntKind.i64.max) ^^^ BitVec.ofInt IntKind.i64.bits a).toNat
def iand (a b : Int) : Int := IntKind.i64.wrap (BitVec.ofInt IntKind.i64.bits a &&& BitVec.ofInt IntKind.i64.bits b).toNat
def ior (a b : Int) : Int := IntKind.i64.wrap (BitVec.ofInt IntKind.i64.bits a ||| BitVec.ofInt IntKind.i64.bits b).toNat
def ixor (a b : Int) : Int := IntKind.i64.wrap (BitVec.ofInt IntKind.i64.bits a ^^^ BitVec.ofInt IntKind.i64.bits b).toNat
def wun (o a : Int) : Int := if o = 20 then IntKind.i64.wrap (0 - a) else if o = 21 then inot a else 0
def quot (a b : Int) : Int := if b = 0 then 0 else if b = -1 then IntKind.i64.wrap (0 - a) else IntKind.i64.wrap (a.tdiv b)
def truth (b : Bool) : Int := if b then 1 else 0
def shBy (b : Int) : Int := IntKind.u64.wrap (iand b 63)
theorem shBy_nonneg (b : Int) : 0 <= shBy b := by
 unfold shBy
 simp only [IntKind.wrap, IntKind.bits, IntKind.signed]
 simp
 omega
def shcmp (o a b : Int) : Int :=
 if o = 12 then IntKind.i64.wrap (a * 2 ^ min (shBy b).toNat IntKind.i64.bits)
 else if o = 13 then IntKind.i64.wrap ((IntKind.u64.wrap a).fdiv (2 ^ min (shBy b).toNat IntKind.u64.bits))
 else if o = 14 then a.fdiv (2 ^ min (shBy b).toNat IntKind.i64.bits)
 else if o = 15 then truth (a == b)
 else if o = 16 then truth (a != b)
 else if o = 17 then truth (decide (a < b))
 else if o = 18 then truth (decide (a <= b))
 else if o = 19 then truth (decide (IntKind.u64.wrap a < IntKind.u64.wrap b))
 else 0
def wbin (o a b : Int) : Int :=
 if o = 4 then IntKind.i64.wrap (a + b)
 else if o = 5 then IntKind.i64.wrap (a - b)
 else if o = 6 then IntKind.i64.wrap (a * b)
 else if o = 7 then quot a b
 else if o = 8 then if b = 0 then 0 else IntKind.i64.wrap (a - IntKind.i64.wrap (quot a b * b))
 else if o = 9 then iand a b
 else if o = 10 then ior a b
 else if o = 11 then ixor a b
 else shcmp o a b
def xbin (o a b c d : Int) : Int × Int := if a = b /\ c = d then (wbin o a c, wbin o a c) else if 15 <= o then (0, 1) else (minW, maxW)
end Go.M13
namespace Go.M13
theorem xbin_single (o a c : Int) : xbin o a a c c = (wbin o a c, wbin o a c) := by unfold xbin; rw [if_pos ⟨rfl, rfl⟩]
theorem xbin_lo {o : Int} (h : o < 15) : xbin o (-9223372036854775808) 9223372036854775807 (-9223372036854775808) 9223372036854775807 = (minW, maxW) := by
 unfold xbin; rw [if_neg (by omega), if_neg (by omega)]
theorem xbin_hi {o : Int} (h : 15 <= o) : xbin o (-9223372036854775808) 9223372036854775807 (-9223372036854775808) 9223372036854775807 = (0, 1) := by
 unfold xbin; rw [if_neg (by omega), if_pos h]
end Go.M13
