/-
  Intervals: the plain functions.
  Conditions: none.
-/
import Derived.IntWalk
namespace Go.M13

def edges : List Int := [0, 1, -1, 2, -9223372036854775808, 9223372036854775807, 4294967296, -2147483648, 63, 64]
/-- a word for a seed -/
def word (n raw : Int) : Int :=
  if n % 24 < 10 then edges.getD (n % 24).toNat 0
  else if n % 24 < 22 then IntKind.i64.wrap (n.tdiv 24) % 17 - 6
  else raw
def ival (a b p q : Int) : Int × Int :=
  if word b q < word a p ∧ 0 < a % 31 then (word b q, word a p) else (word a p, word b q)
def contains (a b n : Int) : Bool := decide (a ≤ n) && decide (n ≤ b)
def wlo (a c : Int) : Int := if c < a then -9223372036854775808 else a
def whi (b d : Int) : Int := if d > b then 9223372036854775807 else b
def meets (a b c d : Int) : Bool := decide (max a c ≤ min b d)
def isect (a b c d : Int) : Int × Int := if meets a b c d then (max a c, min b d) else (0, 0)
end Go.M13
namespace Go.M13
theorem tmod_cases (n m : Int) (h : 0 < m) : (n.tmod m < 0 ∧ n.tmod m + m = n % m ∧ 0 < n % m ∧ n % m < m) ∨ (0 ≤ n.tmod m ∧ n.tmod m = n % m) := by
  have h1 : n % m = if 0 ≤ n ∨ m ∣ n then n.tmod m else n.tmod m + m := by
    rw [Int.tmod_eq_emod]
    split <;> rename_i hc
    · omega
    · rw [show (m.natAbs : Int) = m by omega]; omega
  have h2 := Int.emod_nonneg n (show m ≠ 0 by omega)
  have h3 := Int.emod_lt_of_pos n h
  split at h1
  · right; omega
  · rename_i hc
    have : n % m ≠ 0 := fun e => hc (.inr (Int.dvd_of_emod_eq_zero e))
    left; omega
theorem edge_at (n : Int) (h : n % 24 < 10) : ∃ e, edges[(n % 24).toNat]? = some e ∧ edges.getD (n % 24).toNat 0 = e := by
  have hl : (n % 24).toNat < edges.length := by
    have : edges.length = 10 := rfl
    omega
  exact ⟨edges[(n % 24).toNat], List.getElem?_eq_getElem hl, by simp [List.getD_eq_getElem?_getD, List.getElem?_eq_getElem hl]⟩
end Go.M13
