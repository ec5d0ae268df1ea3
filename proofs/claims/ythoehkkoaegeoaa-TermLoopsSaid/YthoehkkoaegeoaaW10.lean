/-
  Terms: the names of the operations, in plain Lean.
  Conditions: none.
-/
import Derived.IntWalk
namespace Go.M10
def nm10 : List (List UInt8) := [
  [97, 100, 100],
  [115, 117, 98],
  [109, 117, 108],
  [100, 105, 118],
  [114, 101, 109],
  [97, 110, 100],
  [111, 114],
  [120, 111, 114],
  [115, 104, 108],
  [115, 104, 114],
  [115, 97, 114],
  [101, 113],
  [110, 101],
  [108, 116],
  [108, 101],
  [108, 116, 117],
  [110, 101, 103],
  [110, 111, 116],
  [115, 101, 108],
  [108, 111, 97, 100],
  [114, 101, 116],
  [102, 105, 110],
  [115, 116, 97, 114, 116],
  [110, 101, 101, 100],
  [115, 116, 111, 114, 101],
  [111, 117, 116],
  [99, 97, 108, 108],
  [108, 111, 111, 112]]
def tok (a : Int) : Bool := decide (4 ≤ a) && decide (a ≤ 31)
def tnm (a : Int) : List UInt8 := if 4 ≤ a ∧ a ≤ 31 then nm10.getD (a - 4).toNat [] else []
def tno (a : Int) : Int := if 4 ≤ a ∧ a ≤ 31 then a else 0
theorem tok_iff {a : Int} : tok a = true ↔ 4 ≤ a ∧ a ≤ 31 := by simp [tok]
theorem nm_inj : ∀ i j : Fin 28, nm10.getD (i : Nat) [] = nm10.getD (j : Nat) [] → i = j := by decide +kernel
theorem tnm_inj {a b : Int} (ha : tok a = true) (hb : tok b = true) : (tnm a == tnm b) = (a == b) := by
  rw [tok_iff] at ha hb
  rw [Bool.eq_iff_iff, beq_iff_eq, beq_iff_eq]
  refine ⟨fun h => ?_, fun h => by rw [h]⟩
  unfold tnm at h
  rw [if_pos ha, if_pos hb] at h
  have := congrArg Fin.val (nm_inj ⟨(a - 4).toNat, by omega⟩ ⟨(b - 4).toNat, by omega⟩ h)
  simp only at this
  omega
theorem tnm_no {a : Int} (h : tok a = false) : tnm a = [] := by
  unfold tnm
  rw [if_neg]
  intro q
  rw [tok_iff.2 q] at h
  cases h
end Go.M10
