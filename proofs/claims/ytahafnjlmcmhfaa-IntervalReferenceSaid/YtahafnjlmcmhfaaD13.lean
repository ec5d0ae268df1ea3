/-
  Intervals: what the operations compute, in the program and in the reference.
  Conditions: none.
-/
import Derived.Test.YtahafnjlmcmhfaaC13
import Derived.Test.YtahafnjlmcmhfaaS13
import Derived.KernelRfl
set_option linter.unusedVariables false
set_option linter.unusedSimpArgs false
namespace Go.Proofs.Ytahafnjlmcmhfaa
open Go.Pv Go.M13
def tab8 : List UInt8 := (List.range 256).map fun i => UInt8.ofNat (bitl i)
theorem tab8_at : ∀ i : Fin 256, tab8[(i : Nat)]? = some (UInt8.ofNat (bitl i)) ∧ (UInt8.ofNat (bitl i)).toNat = bitl i := by decide +kernel
theorem len_leaf {y : Int} {k : Int} {n : Nat} (hy : 0 ≤ y) (hy' : y < 256) (hk : 0 ≤ k ∧ k ≤ 56) (e : (bitl n : Int) = k + bitl y.toNat) {Q : IV → Heap → Prop} {h : Heap} (hq : Q (.int .i64 (bitl n)) h) (tab : List UInt8) (ht : tab = tab8) :
    needS (decide ((0 : Int) ≤ IntKind.wrap IntKind.u8 y)) (chrS tab (Int.toNat (IntKind.wrap IntKind.u8 y)) fun c => Q (IV.int IntKind.i64 (IntKind.wrap IntKind.i64 (k + IntKind.wrap IntKind.i64 c))) h) := by
  have hw : IntKind.u8.wrap y = y := by
    unfold IntKind.wrap
    simp [IntKind.bits, IntKind.signed]
    omega
  rw [hw]
  refine needS_intro (by simp [hy]) ?_
  obtain ⟨t1, t2⟩ := tab8_at ⟨y.toNat, by omega⟩
  unfold chrS
  simp only at t1 t2
  rw [ht]
  rw [t1]
  show Q (IV.int IntKind.i64 (IntKind.wrap IntKind.i64 (k + IntKind.wrap IntKind.i64 ((UInt8.ofNat (bitl y.toNat)).toNat : Int)))) h
  rw [t2]
  have hb : bitl y.toNat ≤ 8 := bitl_le (show y.toNat < 2 ^ 8 by omega)
  rw [IntWalk.i64_in (bitl y.toNat : Int) (by omega), IntWalk.i64_in _ (by omega), ← e]
  exact hq
def kLen64 (xs : List IV) (h : Heap) (K : IV → Heap → Prop) : Prop := match xs with
  | [.int .u64 x] => (0 ≤ x ∧ x ≤ 18446744073709551615) ∧ K (.int .i64 (bitl x.toNat : Int)) h
  | _ => False
set_option maxRecDepth 100000 in
theorem vLen64 (x : Int) (h : Heap) (Q : IV → Heap → Prop) : dF (stdS cRMul) env 62 noU noI noI [.int .u64 x] h Q = (
  brS (decide (x ≥ (4294967296 : Int)))
    (brS (decide (Int.fdiv x (4294967296 : Int) ≥ (65536 : Int)))
      (brS (decide (Int.fdiv (Int.fdiv x (4294967296 : Int)) (65536 : Int) ≥ (256 : Int)))
        (needS (decide ((0 : Int) ≤ IntKind.wrap IntKind.u8 (Int.fdiv (Int.fdiv (Int.fdiv x (4294967296 : Int)) (65536 : Int)) (256 : Int))))
          (chrS
            [(0 : UInt8), (1 : UInt8), (2 : UInt8), (2 : UInt8), (3 : UInt8), (3 : UInt8), (3 : UInt8), (3 : UInt8), (4 : UInt8), (4 : UInt8), (4 : UInt8), (4 : UInt8), (4 : UInt8), (4 : UInt8), (4 : UInt8), (4 : UInt8), (5 : UInt8),
              (5 : UInt8), (5 : UInt8), (5 : UInt8), (5 : UInt8), (5 : UInt8), (5 : UInt8), (5 : UInt8), (5 : UInt8), (5 : UInt8), (5 : UInt8), (5 : UInt8), (5 : UInt8), (5 : UInt8), (5 : UInt8), (5 : UInt8), (6 : UInt8), (6 : UInt8),
              (6 : UInt8), (6 : UInt8), (6 : UInt8), (6 : UInt8), (6 : UInt8), (6 : UInt8), (6 : UInt8), (6 : UInt8), (6 : UInt8), (6 : UInt8), (6 : UInt8), (6 : UInt8), (6 : UInt8), (6 : UInt8), (6 : UInt8), (6 : UInt8), (6 : UInt8),
              (6 : UInt8), (6 : UInt8), (6 : UInt8), (6 : UInt8), (6 : UInt8), (6 : UInt8), (6 : UInt8), (6 : UInt8), (6 : UInt8), (6 : UInt8), (6 : UInt8), (6 : UInt8), (6 : UInt8), (7 : UInt8), (7 : UInt8), (7 : UInt8), (7 : UInt8),
              (7 : UInt8), (7 : UInt8), (7 : UInt8), (7 : UInt8), (7 : UInt8), (7 : UInt8), (7 : UInt8), (7 : UInt8), (7 : UInt8), (7 : UInt8), (7 : UInt8), (7 : UInt8), (7 : UInt8), (7 : UInt8), (7 : UInt8), (7 : UInt8), (7 : UInt8),
              (7 : UInt8), (7 : UInt8), (7 : UInt8), (7 : UInt8), (7 : UInt8), (7 : UInt8), (7 : UInt8), (7 : UInt8), (7 : UInt8), (7 : UInt8), (7 : UInt8), (7 : UInt8), (7 : UInt8), (7 : UInt8), (7 : UInt8), (7 : UInt8), (7 : UInt8),
              (7 : UInt8), (7 : UInt8), (7 : UInt8), (7 : UInt8), (7 : UInt8), (7 : UInt8), (7 : UInt8), (7 : UInt8), (7 : UInt8), (7 : UInt8), (7 : UInt8), (7 : UInt8), (7 : UInt8), (7 : UInt8), (7 : UInt8), (7 : UInt8), (7 : UInt8),
              (7 : UInt8), (7 : UInt8), (7 : UInt8), (7 : UInt8), (7 : UInt8), (7 : UInt8), (7 : UInt8), (7 : UInt8), (7 : UInt8), (8 : UInt8), (8 : UInt8), (8 : UInt8), (8 : UInt8), (8 : UInt8), (8 : UInt8), (8 : UInt8), (8 : UInt8),
              (8 : UInt8), (8 : UInt8), (8 : UInt8), (8 : UInt8), (8 : UInt8), (8 : UInt8), (8 : UInt8), (8 : UInt8), (8 : UInt8), (8 : UInt8), (8 : UInt8), (8 : UInt8), (8 : UInt8), (8 : UInt8), (8 : UInt8), (8 : UInt8), (8 : UInt8),
              (8 : UInt8), (8 : UInt8), (8 : UInt8), (8 : UInt8), (8 : UInt8), (8 : UInt8), (8 : UInt8), (8 : UInt8), (8 : UInt8), (8 : UInt8), (8 : UInt8), (8 : UInt8), (8 : UInt8), (8 : UInt8), (8 : UInt8), (8 : UInt8), (8 : UInt8),
              (8 : UInt8), (8 : UInt8), (8 : UInt8), (8 : UInt8), (8 : UInt8), (8 : UInt8), (8 : UInt8), (8 : UInt8), (8 : UInt8), (8 : UInt8), (8 : UInt8), (8 : UInt8), (8 : UInt8), (8 : UInt8), (8 : UInt8), (8 : UInt8), (8 : UInt8),
              (8 : UInt8), (8 : UInt8), (8 : UInt8), (8 : UInt8), (8 : UInt8), (8 : UInt8), (8 : UInt8), (8 : UInt8), (8 : UInt8), (8 : UInt8), (8 : UInt8), (8 : UInt8), (8 : UInt8), (8 : UInt8), (8 : UInt8), (8 : UInt8), (8 : UInt8),
              (8 : UInt8), (8 : UInt8), (8 : UInt8), (8 : UInt8), (8 : UInt8), (8 : UInt8), (8 : UInt8), (8 : UInt8), (8 : UInt8), (8 : UInt8), (8 : UInt8), (8 : UInt8), (8 : UInt8), (8 : UInt8), (8 : UInt8), (8 : UInt8), (8 : UInt8),
              (8 : UInt8), (8 : UInt8), (8 : UInt8), (8 : UInt8), (8 : UInt8), (8 : UInt8), (8 : UInt8), (8 : UInt8), (8 : UInt8), (8 : UInt8), (8 : UInt8), (8 : UInt8), (8 : UInt8), (8 : UInt8), (8 : UInt8), (8 : UInt8), (8 : UInt8),
              (8 : UInt8), (8 : UInt8), (8 : UInt8), (8 : UInt8), (8 : UInt8), (8 : UInt8), (8 : UInt8), (8 : UInt8), (8 : UInt8), (8 : UInt8), (8 : UInt8), (8 : UInt8), (8 : UInt8), (8 : UInt8), (8 : UInt8), (8 : UInt8), (8 : UInt8),
              (8 : UInt8)]
            (Int.toNat (IntKind.wrap IntKind.u8 (Int.fdiv (Int.fdiv (Int.fdiv x (4294967296 : Int)) (65536 : Int)) (256 : Int)))) fun (c0 : Int) =>
            Q (IV.int IntKind.i64 (IntKind.wrap IntKind.i64 ((56 : Int) + IntKind.wrap IntKind.i64 c0))) h))
        (needS (decide ((0 : Int) ≤ IntKind.wrap IntKind.u8 (Int.fdiv (Int.fdiv x (4294967296 : Int)) (65536 : Int))))
          (chrS
            [(0 : UInt8), (1 : UInt8), (2 : UInt8), (2 : UInt8), (3 : UInt8), (3 : UInt8), (3 : UInt8), (3 : UInt8), (4 : UInt8), (4 : UInt8), (4 : UInt8), (4 : UInt8), (4 : UInt8), (4 : UInt8), (4 : UInt8), (4 : UInt8), (5 : UInt8),
              (5 : UInt8), (5 : UInt8), (5 : UInt8), (5 : UInt8), (5 : UInt8), (5 : UInt8), (5 : UInt8), (5 : UInt8), (5 : UInt8), (5 : UInt8), (5 : UInt8), (5 : UInt8), (5 : UInt8), (5 : UInt8), (5 : UInt8), (6 : UInt8), (6 : UInt8),
              (6 : UInt8), (6 : UInt8), (6 : UInt8), (6 : UInt8), (6 : UInt8), (6 : UInt8), (6 : UInt8), (6 : UInt8), (6 : UInt8), (6 : UInt8), (6 : UInt8), (6 : UInt8), (6 : UInt8), (6 : UInt8), (6 : UInt8), (6 : UInt8), (6 : UInt8),
              (6 : UInt8), (6 : UInt8), (6 : UInt8), (6 : UInt8), (6 : UInt8), (6 : UInt8), (6 : UInt8), (6 : UInt8), (6 : UInt8), (6 : UInt8), (6 : UInt8), (6 : UInt8), (6 : UInt8), (7 : UInt8), (7 : UInt8), (7 : UInt8), (7 : UInt8),
              (7 : UInt8), (7 : UInt8), (7 : UInt8), (7 : UInt8), (7 : UInt8), (7 : UInt8), (7 : UInt8), (7 : UInt8), (7 : UInt8), (7 : UInt8), (7 : UInt8), (7 : UInt8), (7 : UInt8), (7 : UInt8), (7 : UInt8), (7 : UInt8), (7 : UInt8),
              (7 : UInt8), (7 : UInt8), (7 : UInt8), (7 : UInt8), (7 : UInt8), (7 : UInt8), (7 : UInt8), (7 : UInt8), (7 : UInt8), (7 : UInt8), (7 : UInt8), (7 : UInt8), (7 : UInt8), (7 : UInt8), (7 : UInt8), (7 : UInt8), (7 : UInt8),
              (7 : UInt8), (7 : UInt8), (7 : UInt8), (7 : UInt8), (7 : UInt8), (7 : UInt8), (7 : UInt8), (7 : UInt8), (7 : UInt8), (7 : UInt8), (7 : UInt8), (7 : UInt8), (7 : UInt8), (7 : UInt8), (7 : UInt8), (7 : UInt8), (7 : UInt8),
              (7 : UInt8), (7 : UInt8), (7 : UInt8), (7 : UInt8), (7 : UInt8), (7 : UInt8), (7 : UInt8), (7 : UInt8), (7 : UInt8), (8 : UInt8), (8 : UInt8), (8 : UInt8), (8 : UInt8), (8 : UInt8), (8 : UInt8), (8 : UInt8), (8 : UInt8),
              (8 : UInt8), (8 : UInt8), (8 : UInt8), (8 : UInt8), (8 : UInt8), (8 : UInt8), (8 : UInt8), (8 : UInt8), (8 : UInt8), (8 : UInt8), (8 : UInt8), (8 : UInt8), (8 : UInt8), (8 : UInt8), (8 : UInt8), (8 : UInt8), (8 : UInt8),
              (8 : UInt8), (8 : UInt8), (8 : UInt8), (8 : UInt8), (8 : UInt8), (8 : UInt8), (8 : UInt8), (8 : UInt8), (8 : UInt8), (8 : UInt8), (8 : UInt8), (8 : UInt8), (8 : UInt8), (8 : UInt8), (8 : UInt8), (8 : UInt8), (8 : UInt8),
              (8 : UInt8), (8 : UInt8), (8 : UInt8), (8 : UInt8), (8 : UInt8), (8 : UInt8), (8 : UInt8), (8 : UInt8), (8 : UInt8), (8 : UInt8), (8 : UInt8), (8 : UInt8), (8 : UInt8), (8 : UInt8), (8 : UInt8), (8 : UInt8), (8 : UInt8),
              (8 : UInt8), (8 : UInt8), (8 : UInt8), (8 : UInt8), (8 : UInt8), (8 : UInt8), (8 : UInt8), (8 : UInt8), (8 : UInt8), (8 : UInt8), (8 : UInt8), (8 : UInt8), (8 : UInt8), (8 : UInt8), (8 : UInt8), (8 : UInt8), (8 : UInt8),
              (8 : UInt8), (8 : UInt8), (8 : UInt8), (8 : UInt8), (8 : UInt8), (8 : UInt8), (8 : UInt8), (8 : UInt8), (8 : UInt8), (8 : UInt8), (8 : UInt8), (8 : UInt8), (8 : UInt8), (8 : UInt8), (8 : UInt8), (8 : UInt8), (8 : UInt8),
              (8 : UInt8), (8 : UInt8), (8 : UInt8), (8 : UInt8), (8 : UInt8), (8 : UInt8), (8 : UInt8), (8 : UInt8), (8 : UInt8), (8 : UInt8), (8 : UInt8), (8 : UInt8), (8 : UInt8), (8 : UInt8), (8 : UInt8), (8 : UInt8), (8 : UInt8),
              (8 : UInt8), (8 : UInt8), (8 : UInt8), (8 : UInt8), (8 : UInt8), (8 : UInt8), (8 : UInt8), (8 : UInt8), (8 : UInt8), (8 : UInt8), (8 : UInt8), (8 : UInt8), (8 : UInt8), (8 : UInt8), (8 : UInt8), (8 : UInt8), (8 : UInt8),
              (8 : UInt8)]
            (Int.toNat (IntKind.wrap IntKind.u8 (Int.fdiv (Int.fdiv x (4294967296 : Int)) (65536 : Int)))) fun (c1 : Int) => Q (IV.int IntKind.i64 (IntKind.wrap IntKind.i64 ((48 : Int) + IntKind.wrap IntKind.i64 c1))) h)))
      (brS (decide (Int.fdiv x (4294967296 : Int) ≥ (256 : Int)))
        (needS (decide ((0 : Int) ≤ IntKind.wrap IntKind.u8 (Int.fdiv (Int.fdiv x (4294967296 : Int)) (256 : Int))))
          (chrS
            [(0 : UInt8), (1 : UInt8), (2 : UInt8), (2 : UInt8), (3 : UInt8), (3 : UInt8), (3 : UInt8), (3 : UInt8), (4 : UInt8), (4 : UInt8), (4 : UInt8), (4 : UInt8), (4 : UInt8), (4 : UInt8), (4 : UInt8), (4 : UInt8), (5 : UInt8),
              (5 : UInt8), (5 : UInt8), (5 : UInt8), (5 : UInt8), (5 : UInt8), (5 : UInt8), (5 : UInt8), (5 : UInt8), (5 : UInt8), (5 : UInt8), (5 : UInt8), (5 : UInt8), (5 : UInt8), (5 : UInt8), (5 : UInt8), (6 : UInt8), (6 : UInt8),
              (6 : UInt8), (6 : UInt8), (6 : UInt8), (6 : UInt8), (6 : UInt8), (6 : UInt8), (6 : UInt8), (6 : UInt8), (6 : UInt8), (6 : UInt8), (6 : UInt8), (6 : UInt8), (6 : UInt8), (6 : UInt8), (6 : UInt8), (6 : UInt8), (6 : UInt8),
              (6 : UInt8), (6 : UInt8), (6 : UInt8), (6 : UInt8), (6 : UInt8), (6 : UInt8), (6 : UInt8), (6 : UInt8), (6 : UInt8), (6 : UInt8), (6 : UInt8), (6 : UInt8), (6 : UInt8), (7 : UInt8), (7 : UInt8), (7 : UInt8), (7 : UInt8),
              (7 : UInt8), (7 : UInt8), (7 : UInt8), (7 : UInt8), (7 : UInt8), (7 : UInt8), (7 : UInt8), (7 : UInt8), (7 : UInt8), (7 : UInt8), (7 : UInt8), (7 : UInt8), (7 : UInt8), (7 : UInt8), (7 : UInt8), (7 : UInt8), (7 : UInt8),
              (7 : UInt8), (7 : UInt8), (7 : UInt8), (7 : UInt8), (7 : UInt8), (7 : UInt8), (7 : UInt8), (7 : UInt8), (7 : UInt8), (7 : UInt8), (7 : UInt8), (7 : UInt8), (7 : UInt8), (7 : UInt8), (7 : UInt8), (7 : UInt8), (7 : UInt8),
              (7 : UInt8), (7 : UInt8), (7 : UInt8), (7 : UInt8), (7 : UInt8), (7 : UInt8), (7 : UInt8), (7 : UInt8), (7 : UInt8), (7 : UInt8), (7 : UInt8), (7 : UInt8), (7 : UInt8), (7 : UInt8), (7 : UInt8), (7 : UInt8), (7 : UInt8),
              (7 : UInt8), (7 : UInt8), (7 : UInt8), (7 : UInt8), (7 : UInt8), (7 : UInt8), (7 : UInt8), (7 : UInt8), (7 : UInt8), (8 : UInt8), (8 : UInt8), (8 : UInt8), (8 : UInt8), (8 : UInt8), (8 : UInt8), (8 : UInt8), (8 : UInt8),
              (8 : UInt8), (8 : UInt8), (8 : UInt8), (8 : UInt8), (8 : UInt8), (8 : UInt8), (8 : UInt8), (8 : UInt8), (8 : UInt8), (8 : UInt8), (8 : UInt8), (8 : UInt8), (8 : UInt8), (8 : UInt8), (8 : UInt8), (8 : UInt8), (8 : UInt8),
              (8 : UInt8), (8 : UInt8), (8 : UInt8), (8 : UInt8), (8 : UInt8), (8 : UInt8), (8 : UInt8), (8 : UInt8), (8 : UInt8), (8 : UInt8), (8 : UInt8), (8 : UInt8), (8 : UInt8), (8 : UInt8), (8 : UInt8), (8 : UInt8), (8 : UInt8),
              (8 : UInt8), (8 : UInt8), (8 : UInt8), (8 : UInt8), (8 : UInt8), (8 : UInt8), (8 : UInt8), (8 : UInt8), (8 : UInt8), (8 : UInt8), (8 : UInt8), (8 : UInt8), (8 : UInt8), (8 : UInt8), (8 : UInt8), (8 : UInt8), (8 : UInt8),
              (8 : UInt8), (8 : UInt8), (8 : UInt8), (8 : UInt8), (8 : UInt8), (8 : UInt8), (8 : UInt8), (8 : UInt8), (8 : UInt8), (8 : UInt8), (8 : UInt8), (8 : UInt8), (8 : UInt8), (8 : UInt8), (8 : UInt8), (8 : UInt8), (8 : UInt8),
              (8 : UInt8), (8 : UInt8), (8 : UInt8), (8 : UInt8), (8 : UInt8), (8 : UInt8), (8 : UInt8), (8 : UInt8), (8 : UInt8), (8 : UInt8), (8 : UInt8), (8 : UInt8), (8 : UInt8), (8 : UInt8), (8 : UInt8), (8 : UInt8), (8 : UInt8),
              (8 : UInt8), (8 : UInt8), (8 : UInt8), (8 : UInt8), (8 : UInt8), (8 : UInt8), (8 : UInt8), (8 : UInt8), (8 : UInt8), (8 : UInt8), (8 : UInt8), (8 : UInt8), (8 : UInt8), (8 : UInt8), (8 : UInt8), (8 : UInt8), (8 : UInt8),
              (8 : UInt8), (8 : UInt8), (8 : UInt8), (8 : UInt8), (8 : UInt8), (8 : UInt8), (8 : UInt8), (8 : UInt8), (8 : UInt8), (8 : UInt8), (8 : UInt8), (8 : UInt8), (8 : UInt8), (8 : UInt8), (8 : UInt8), (8 : UInt8), (8 : UInt8),
              (8 : UInt8)]
            (Int.toNat (IntKind.wrap IntKind.u8 (Int.fdiv (Int.fdiv x (4294967296 : Int)) (256 : Int)))) fun (c2 : Int) => Q (IV.int IntKind.i64 (IntKind.wrap IntKind.i64 ((40 : Int) + IntKind.wrap IntKind.i64 c2))) h))
        (needS (decide ((0 : Int) ≤ IntKind.wrap IntKind.u8 (Int.fdiv x (4294967296 : Int))))
          (chrS
            [(0 : UInt8), (1 : UInt8), (2 : UInt8), (2 : UInt8), (3 : UInt8), (3 : UInt8), (3 : UInt8), (3 : UInt8), (4 : UInt8), (4 : UInt8), (4 : UInt8), (4 : UInt8), (4 : UInt8), (4 : UInt8), (4 : UInt8), (4 : UInt8), (5 : UInt8),
              (5 : UInt8), (5 : UInt8), (5 : UInt8), (5 : UInt8), (5 : UInt8), (5 : UInt8), (5 : UInt8), (5 : UInt8), (5 : UInt8), (5 : UInt8), (5 : UInt8), (5 : UInt8), (5 : UInt8), (5 : UInt8), (5 : UInt8), (6 : UInt8), (6 : UInt8),
              (6 : UInt8), (6 : UInt8), (6 : UInt8), (6 : UInt8), (6 : UInt8), (6 : UInt8), (6 : UInt8), (6 : UInt8), (6 : UInt8), (6 : UInt8), (6 : UInt8), (6 : UInt8), (6 : UInt8), (6 : UInt8), (6 : UInt8), (6 : UInt8), (6 : UInt8),
              (6 : UInt8), (6 : UInt8), (6 : UInt8), (6 : UInt8), (6 : UInt8), (6 : UInt8), (6 : UInt8), (6 : UInt8), (6 : UInt8), (6 : UInt8), (6 : UInt8), (6 : UInt8), (6 : UInt8), (7 : UInt8), (7 : UInt8), (7 : UInt8), (7 : UInt8),
              (7 : UInt8), (7 : UInt8), (7 : UInt8), (7 : UInt8), (7 : UInt8), (7 : UInt8), (7 : UInt8), (7 : UInt8), (7 : UInt8), (7 : UInt8), (7 : UInt8), (7 : UInt8), (7 : UInt8), (7 : UInt8), (7 : UInt8), (7 : UInt8), (7 : UInt8),
              (7 : UInt8), (7 : UInt8), (7 : UInt8), (7 : UInt8), (7 : UInt8), (7 : UInt8), (7 : UInt8), (7 : UInt8), (7 : UInt8), (7 : UInt8), (7 : UInt8), (7 : UInt8), (7 : UInt8), (7 : UInt8), (7 : UInt8), (7 : UInt8), (7 : UInt8),
              (7 : UInt8), (7 : UInt8), (7 : UInt8), (7 : UInt8), (7 : UInt8), (7 : UInt8), (7 : UInt8), (7 : UInt8), (7 : UInt8), (7 : UInt8), (7 : UInt8), (7 : UInt8), (7 : UInt8), (7 : UInt8), (7 : UInt8), (7 : UInt8), (7 : UInt8),
              (7 : UInt8), (7 : UInt8), (7 : UInt8), (7 : UInt8), (7 : UInt8), (7 : UInt8), (7 : UInt8), (7 : UInt8), (7 : UInt8), (8 : UInt8), (8 : UInt8), (8 : UInt8), (8 : UInt8), (8 : UInt8), (8 : UInt8), (8 : UInt8), (8 : UInt8),
              (8 : UInt8), (8 : UInt8), (8 : UInt8), (8 : UInt8), (8 : UInt8), (8 : UInt8), (8 : UInt8), (8 : UInt8), (8 : UInt8), (8 : UInt8), (8 : UInt8), (8 : UInt8), (8 : UInt8), (8 : UInt8), (8 : UInt8), (8 : UInt8), (8 : UInt8),
              (8 : UInt8), (8 : UInt8), (8 : UInt8), (8 : UInt8), (8 : UInt8), (8 : UInt8), (8 : UInt8), (8 : UInt8), (8 : UInt8), (8 : UInt8), (8 : UInt8), (8 : UInt8), (8 : UInt8), (8 : UInt8), (8 : UInt8), (8 : UInt8), (8 : UInt8),
              (8 : UInt8), (8 : UInt8), (8 : UInt8), (8 : UInt8), (8 : UInt8), (8 : UInt8), (8 : UInt8), (8 : UInt8), (8 : UInt8), (8 : UInt8), (8 : UInt8), (8 : UInt8), (8 : UInt8), (8 : UInt8), (8 : UInt8), (8 : UInt8), (8 : UInt8),
              (8 : UInt8), (8 : UInt8), (8 : UInt8), (8 : UInt8), (8 : UInt8), (8 : UInt8), (8 : UInt8), (8 : UInt8), (8 : UInt8), (8 : UInt8), (8 : UInt8), (8 : UInt8), (8 : UInt8), (8 : UInt8), (8 : UInt8), (8 : UInt8), (8 : UInt8),
              (8 : UInt8), (8 : UInt8), (8 : UInt8), (8 : UInt8), (8 : UInt8), (8 : UInt8), (8 : UInt8), (8 : UInt8), (8 : UInt8), (8 : UInt8), (8 : UInt8), (8 : UInt8), (8 : UInt8), (8 : UInt8), (8 : UInt8), (8 : UInt8), (8 : UInt8),
              (8 : UInt8), (8 : UInt8), (8 : UInt8), (8 : UInt8), (8 : UInt8), (8 : UInt8), (8 : UInt8), (8 : UInt8), (8 : UInt8), (8 : UInt8), (8 : UInt8), (8 : UInt8), (8 : UInt8), (8 : UInt8), (8 : UInt8), (8 : UInt8), (8 : UInt8),
              (8 : UInt8), (8 : UInt8), (8 : UInt8), (8 : UInt8), (8 : UInt8), (8 : UInt8), (8 : UInt8), (8 : UInt8), (8 : UInt8), (8 : UInt8), (8 : UInt8), (8 : UInt8), (8 : UInt8), (8 : UInt8), (8 : UInt8), (8 : UInt8), (8 : UInt8),
              (8 : UInt8)]
            (Int.toNat (IntKind.wrap IntKind.u8 (Int.fdiv x (4294967296 : Int)))) fun (c3 : Int) => Q (IV.int IntKind.i64 (IntKind.wrap IntKind.i64 ((32 : Int) + IntKind.wrap IntKind.i64 c3))) h))))
    (brS (decide (x ≥ (65536 : Int)))
      (brS (decide (Int.fdiv x (65536 : Int) ≥ (256 : Int)))
        (needS (decide ((0 : Int) ≤ IntKind.wrap IntKind.u8 (Int.fdiv (Int.fdiv x (65536 : Int)) (256 : Int))))
          (chrS
            [(0 : UInt8), (1 : UInt8), (2 : UInt8), (2 : UInt8), (3 : UInt8), (3 : UInt8), (3 : UInt8), (3 : UInt8), (4 : UInt8), (4 : UInt8), (4 : UInt8), (4 : UInt8), (4 : UInt8), (4 : UInt8), (4 : UInt8), (4 : UInt8), (5 : UInt8),
              (5 : UInt8), (5 : UInt8), (5 : UInt8), (5 : UInt8), (5 : UInt8), (5 : UInt8), (5 : UInt8), (5 : UInt8), (5 : UInt8), (5 : UInt8), (5 : UInt8), (5 : UInt8), (5 : UInt8), (5 : UInt8), (5 : UInt8), (6 : UInt8), (6 : UInt8),
              (6 : UInt8), (6 : UInt8), (6 : UInt8), (6 : UInt8), (6 : UInt8), (6 : UInt8), (6 : UInt8), (6 : UInt8), (6 : UInt8), (6 : UInt8), (6 : UInt8), (6 : UInt8), (6 : UInt8), (6 : UInt8), (6 : UInt8), (6 : UInt8), (6 : UInt8),
              (6 : UInt8), (6 : UInt8), (6 : UInt8), (6 : UInt8), (6 : UInt8), (6 : UInt8), (6 : UInt8), (6 : UInt8), (6 : UInt8), (6 : UInt8), (6 : UInt8), (6 : UInt8), (6 : UInt8), (7 : UInt8), (7 : UInt8), (7 : UInt8), (7 : UInt8),
              (7 : UInt8), (7 : UInt8), (7 : UInt8), (7 : UInt8), (7 : UInt8), (7 : UInt8), (7 : UInt8), (7 : UInt8), (7 : UInt8), (7 : UInt8), (7 : UInt8), (7 : UInt8), (7 : UInt8), (7 : UInt8), (7 : UInt8), (7 : UInt8), (7 : UInt8),
              (7 : UInt8), (7 : UInt8), (7 : UInt8), (7 : UInt8), (7 : UInt8), (7 : UInt8), (7 : UInt8), (7 : UInt8), (7 : UInt8), (7 : UInt8), (7 : UInt8), (7 : UInt8), (7 : UInt8), (7 : UInt8), (7 : UInt8), (7 : UInt8), (7 : UInt8),
              (7 : UInt8), (7 : UInt8), (7 : UInt8), (7 : UInt8), (7 : UInt8), (7 : UInt8), (7 : UInt8), (7 : UInt8), (7 : UInt8), (7 : UInt8), (7 : UInt8), (7 : UInt8), (7 : UInt8), (7 : UInt8), (7 : UInt8), (7 : UInt8), (7 : UInt8),
              (7 : UInt8), (7 : UInt8), (7 : UInt8), (7 : UInt8), (7 : UInt8), (7 : UInt8), (7 : UInt8), (7 : UInt8), (7 : UInt8), (8 : UInt8), (8 : UInt8), (8 : UInt8), (8 : UInt8), (8 : UInt8), (8 : UInt8), (8 : UInt8), (8 : UInt8),
              (8 : UInt8), (8 : UInt8), (8 : UInt8), (8 : UInt8), (8 : UInt8), (8 : UInt8), (8 : UInt8), (8 : UInt8), (8 : UInt8), (8 : UInt8), (8 : UInt8), (8 : UInt8), (8 : UInt8), (8 : UInt8), (8 : UInt8), (8 : UInt8), (8 : UInt8),
              (8 : UInt8), (8 : UInt8), (8 : UInt8), (8 : UInt8), (8 : UInt8), (8 : UInt8), (8 : UInt8), (8 : UInt8), (8 : UInt8), (8 : UInt8), (8 : UInt8), (8 : UInt8), (8 : UInt8), (8 : UInt8), (8 : UInt8), (8 : UInt8), (8 : UInt8),
              (8 : UInt8), (8 : UInt8), (8 : UInt8), (8 : UInt8), (8 : UInt8), (8 : UInt8), (8 : UInt8), (8 : UInt8), (8 : UInt8), (8 : UInt8), (8 : UInt8), (8 : UInt8), (8 : UInt8), (8 : UInt8), (8 : UInt8), (8 : UInt8), (8 : UInt8),
              (8 : UInt8), (8 : UInt8), (8 : UInt8), (8 : UInt8), (8 : UInt8), (8 : UInt8), (8 : UInt8), (8 : UInt8), (8 : UInt8), (8 : UInt8), (8 : UInt8), (8 : UInt8), (8 : UInt8), (8 : UInt8), (8 : UInt8), (8 : UInt8), (8 : UInt8),
              (8 : UInt8), (8 : UInt8), (8 : UInt8), (8 : UInt8), (8 : UInt8), (8 : UInt8), (8 : UInt8), (8 : UInt8), (8 : UInt8), (8 : UInt8), (8 : UInt8), (8 : UInt8), (8 : UInt8), (8 : UInt8), (8 : UInt8), (8 : UInt8), (8 : UInt8),
              (8 : UInt8), (8 : UInt8), (8 : UInt8), (8 : UInt8), (8 : UInt8), (8 : UInt8), (8 : UInt8), (8 : UInt8), (8 : UInt8), (8 : UInt8), (8 : UInt8), (8 : UInt8), (8 : UInt8), (8 : UInt8), (8 : UInt8), (8 : UInt8), (8 : UInt8),
              (8 : UInt8), (8 : UInt8), (8 : UInt8), (8 : UInt8), (8 : UInt8), (8 : UInt8), (8 : UInt8), (8 : UInt8), (8 : UInt8), (8 : UInt8), (8 : UInt8), (8 : UInt8), (8 : UInt8), (8 : UInt8), (8 : UInt8), (8 : UInt8), (8 : UInt8),
              (8 : UInt8)]
            (Int.toNat (IntKind.wrap IntKind.u8 (Int.fdiv (Int.fdiv x (65536 : Int)) (256 : Int)))) fun (c4 : Int) => Q (IV.int IntKind.i64 (IntKind.wrap IntKind.i64 ((24 : Int) + IntKind.wrap IntKind.i64 c4))) h))
        (needS (decide ((0 : Int) ≤ IntKind.wrap IntKind.u8 (Int.fdiv x (65536 : Int))))
          (chrS
            [(0 : UInt8), (1 : UInt8), (2 : UInt8), (2 : UInt8), (3 : UInt8), (3 : UInt8), (3 : UInt8), (3 : UInt8), (4 : UInt8), (4 : UInt8), (4 : UInt8), (4 : UInt8), (4 : UInt8), (4 : UInt8), (4 : UInt8), (4 : UInt8), (5 : UInt8),
              (5 : UInt8), (5 : UInt8), (5 : UInt8), (5 : UInt8), (5 : UInt8), (5 : UInt8), (5 : UInt8), (5 : UInt8), (5 : UInt8), (5 : UInt8), (5 : UInt8), (5 : UInt8), (5 : UInt8), (5 : UInt8), (5 : UInt8), (6 : UInt8), (6 : UInt8),
              (6 : UInt8), (6 : UInt8), (6 : UInt8), (6 : UInt8), (6 : UInt8), (6 : UInt8), (6 : UInt8), (6 : UInt8), (6 : UInt8), (6 : UInt8), (6 : UInt8), (6 : UInt8), (6 : UInt8), (6 : UInt8), (6 : UInt8), (6 : UInt8), (6 : UInt8),
              (6 : UInt8), (6 : UInt8), (6 : UInt8), (6 : UInt8), (6 : UInt8), (6 : UInt8), (6 : UInt8), (6 : UInt8), (6 : UInt8), (6 : UInt8), (6 : UInt8), (6 : UInt8), (6 : UInt8), (7 : UInt8), (7 : UInt8), (7 : UInt8), (7 : UInt8),
              (7 : UInt8), (7 : UInt8), (7 : UInt8), (7 : UInt8), (7 : UInt8), (7 : UInt8), (7 : UInt8), (7 : UInt8), (7 : UInt8), (7 : UInt8), (7 : UInt8), (7 : UInt8), (7 : UInt8), (7 : UInt8), (7 : UInt8), (7 : UInt8), (7 : UInt8),
              (7 : UInt8), (7 : UInt8), (7 : UInt8), (7 : UInt8), (7 : UInt8), (7 : UInt8), (7 : UInt8), (7 : UInt8), (7 : UInt8), (7 : UInt8), (7 : UInt8), (7 : UInt8), (7 : UInt8), (7 : UInt8), (7 : UInt8), (7 : UInt8), (7 : UInt8),
              (7 : UInt8), (7 : UInt8), (7 : UInt8), (7 : UInt8), (7 : UInt8), (7 : UInt8), (7 : UInt8), (7 : UInt8), (7 : UInt8), (7 : UInt8), (7 : UInt8), (7 : UInt8), (7 : UInt8), (7 : UInt8), (7 : UInt8), (7 : UInt8), (7 : UInt8),
              (7 : UInt8), (7 : UInt8), (7 : UInt8), (7 : UInt8), (7 : UInt8), (7 : UInt8), (7 : UInt8), (7 : UInt8), (7 : UInt8), (8 : UInt8), (8 : UInt8), (8 : UInt8), (8 : UInt8), (8 : UInt8), (8 : UInt8), (8 : UInt8), (8 : UInt8),
              (8 : UInt8), (8 : UInt8), (8 : UInt8), (8 : UInt8), (8 : UInt8), (8 : UInt8), (8 : UInt8), (8 : UInt8), (8 : UInt8), (8 : UInt8), (8 : UInt8), (8 : UInt8), (8 : UInt8), (8 : UInt8), (8 : UInt8), (8 : UInt8), (8 : UInt8),
              (8 : UInt8), (8 : UInt8), (8 : UInt8), (8 : UInt8), (8 : UInt8), (8 : UInt8), (8 : UInt8), (8 : UInt8), (8 : UInt8), (8 : UInt8), (8 : UInt8), (8 : UInt8), (8 : UInt8), (8 : UInt8), (8 : UInt8), (8 : UInt8), (8 : UInt8),
              (8 : UInt8), (8 : UInt8), (8 : UInt8), (8 : UInt8), (8 : UInt8), (8 : UInt8), (8 : UInt8), (8 : UInt8), (8 : UInt8), (8 : UInt8), (8 : UInt8), (8 : UInt8), (8 : UInt8), (8 : UInt8), (8 : UInt8), (8 : UInt8), (8 : UInt8),
              (8 : UInt8), (8 : UInt8), (8 : UInt8), (8 : UInt8), (8 : UInt8), (8 : UInt8), (8 : UInt8), (8 : UInt8), (8 : UInt8), (8 : UInt8), (8 : UInt8), (8 : UInt8), (8 : UInt8), (8 : UInt8), (8 : UInt8), (8 : UInt8), (8 : UInt8),
              (8 : UInt8), (8 : UInt8), (8 : UInt8), (8 : UInt8), (8 : UInt8), (8 : UInt8), (8 : UInt8), (8 : UInt8), (8 : UInt8), (8 : UInt8), (8 : UInt8), (8 : UInt8), (8 : UInt8), (8 : UInt8), (8 : UInt8), (8 : UInt8), (8 : UInt8),
              (8 : UInt8), (8 : UInt8), (8 : UInt8), (8 : UInt8), (8 : UInt8), (8 : UInt8), (8 : UInt8), (8 : UInt8), (8 : UInt8), (8 : UInt8), (8 : UInt8), (8 : UInt8), (8 : UInt8), (8 : UInt8), (8 : UInt8), (8 : UInt8), (8 : UInt8),
              (8 : UInt8), (8 : UInt8), (8 : UInt8), (8 : UInt8), (8 : UInt8), (8 : UInt8), (8 : UInt8), (8 : UInt8), (8 : UInt8), (8 : UInt8), (8 : UInt8), (8 : UInt8), (8 : UInt8), (8 : UInt8), (8 : UInt8), (8 : UInt8), (8 : UInt8),
              (8 : UInt8)]
            (Int.toNat (IntKind.wrap IntKind.u8 (Int.fdiv x (65536 : Int)))) fun (c5 : Int) => Q (IV.int IntKind.i64 (IntKind.wrap IntKind.i64 ((16 : Int) + IntKind.wrap IntKind.i64 c5))) h)))
      (brS (decide (x ≥ (256 : Int)))
        (needS (decide ((0 : Int) ≤ IntKind.wrap IntKind.u8 (Int.fdiv x (256 : Int))))
          (chrS
            [(0 : UInt8), (1 : UInt8), (2 : UInt8), (2 : UInt8), (3 : UInt8), (3 : UInt8), (3 : UInt8), (3 : UInt8), (4 : UInt8), (4 : UInt8), (4 : UInt8), (4 : UInt8), (4 : UInt8), (4 : UInt8), (4 : UInt8), (4 : UInt8), (5 : UInt8),
              (5 : UInt8), (5 : UInt8), (5 : UInt8), (5 : UInt8), (5 : UInt8), (5 : UInt8), (5 : UInt8), (5 : UInt8), (5 : UInt8), (5 : UInt8), (5 : UInt8), (5 : UInt8), (5 : UInt8), (5 : UInt8), (5 : UInt8), (6 : UInt8), (6 : UInt8),
              (6 : UInt8), (6 : UInt8), (6 : UInt8), (6 : UInt8), (6 : UInt8), (6 : UInt8), (6 : UInt8), (6 : UInt8), (6 : UInt8), (6 : UInt8), (6 : UInt8), (6 : UInt8), (6 : UInt8), (6 : UInt8), (6 : UInt8), (6 : UInt8), (6 : UInt8),
              (6 : UInt8), (6 : UInt8), (6 : UInt8), (6 : UInt8), (6 : UInt8), (6 : UInt8), (6 : UInt8), (6 : UInt8), (6 : UInt8), (6 : UInt8), (6 : UInt8), (6 : UInt8), (6 : UInt8), (7 : UInt8), (7 : UInt8), (7 : UInt8), (7 : UInt8),
              (7 : UInt8), (7 : UInt8), (7 : UInt8), (7 : UInt8), (7 : UInt8), (7 : UInt8), (7 : UInt8), (7 : UInt8), (7 : UInt8), (7 : UInt8), (7 : UInt8), (7 : UInt8), (7 : UInt8), (7 : UInt8), (7 : UInt8), (7 : UInt8), (7 : UInt8),
              (7 : UInt8), (7 : UInt8), (7 : UInt8), (7 : UInt8), (7 : UInt8), (7 : UInt8), (7 : UInt8), (7 : UInt8), (7 : UInt8), (7 : UInt8), (7 : UInt8), (7 : UInt8), (7 : UInt8), (7 : UInt8), (7 : UInt8), (7 : UInt8), (7 : UInt8),
              (7 : UInt8), (7 : UInt8), (7 : UInt8), (7 : UInt8), (7 : UInt8), (7 : UInt8), (7 : UInt8), (7 : UInt8), (7 : UInt8), (7 : UInt8), (7 : UInt8), (7 : UInt8), (7 : UInt8), (7 : UInt8), (7 : UInt8), (7 : UInt8), (7 : UInt8),
              (7 : UInt8), (7 : UInt8), (7 : UInt8), (7 : UInt8), (7 : UInt8), (7 : UInt8), (7 : UInt8), (7 : UInt8), (7 : UInt8), (8 : UInt8), (8 : UInt8), (8 : UInt8), (8 : UInt8), (8 : UInt8), (8 : UInt8), (8 : UInt8), (8 : UInt8),
              (8 : UInt8), (8 : UInt8), (8 : UInt8), (8 : UInt8), (8 : UInt8), (8 : UInt8), (8 : UInt8), (8 : UInt8), (8 : UInt8), (8 : UInt8), (8 : UInt8), (8 : UInt8), (8 : UInt8), (8 : UInt8), (8 : UInt8), (8 : UInt8), (8 : UInt8),
              (8 : UInt8), (8 : UInt8), (8 : UInt8), (8 : UInt8), (8 : UInt8), (8 : UInt8), (8 : UInt8), (8 : UInt8), (8 : UInt8), (8 : UInt8), (8 : UInt8), (8 : UInt8), (8 : UInt8), (8 : UInt8), (8 : UInt8), (8 : UInt8), (8 : UInt8),
              (8 : UInt8), (8 : UInt8), (8 : UInt8), (8 : UInt8), (8 : UInt8), (8 : UInt8), (8 : UInt8), (8 : UInt8), (8 : UInt8), (8 : UInt8), (8 : UInt8), (8 : UInt8), (8 : UInt8), (8 : UInt8), (8 : UInt8), (8 : UInt8), (8 : UInt8),
              (8 : UInt8), (8 : UInt8), (8 : UInt8), (8 : UInt8), (8 : UInt8), (8 : UInt8), (8 : UInt8), (8 : UInt8), (8 : UInt8), (8 : UInt8), (8 : UInt8), (8 : UInt8), (8 : UInt8), (8 : UInt8), (8 : UInt8), (8 : UInt8), (8 : UInt8),
              (8 : UInt8), (8 : UInt8), (8 : UInt8), (8 : UInt8), (8 : UInt8), (8 : UInt8), (8 : UInt8), (8 : UInt8), (8 : UInt8), (8 : UInt8), (8 : UInt8), (8 : UInt8), (8 : UInt8), (8 : UInt8), (8 : UInt8), (8 : UInt8), (8 : UInt8),
              (8 : UInt8), (8 : UInt8), (8 : UInt8), (8 : UInt8), (8 : UInt8), (8 : UInt8), (8 : UInt8), (8 : UInt8), (8 : UInt8), (8 : UInt8), (8 : UInt8), (8 : UInt8), (8 : UInt8), (8 : UInt8), (8 : UInt8), (8 : UInt8), (8 : UInt8),
              (8 : UInt8), (8 : UInt8), (8 : UInt8), (8 : UInt8), (8 : UInt8), (8 : UInt8), (8 : UInt8), (8 : UInt8), (8 : UInt8), (8 : UInt8), (8 : UInt8), (8 : UInt8), (8 : UInt8), (8 : UInt8), (8 : UInt8), (8 : UInt8), (8 : UInt8),
              (8 : UInt8)]
            (Int.toNat (IntKind.wrap IntKind.u8 (Int.fdiv x (256 : Int)))) fun (c6 : Int) => Q (IV.int IntKind.i64 (IntKind.wrap IntKind.i64 ((8 : Int) + IntKind.wrap IntKind.i64 c6))) h))
        (needS (decide ((0 : Int) ≤ IntKind.wrap IntKind.u8 x))
          (chrS
            [(0 : UInt8), (1 : UInt8), (2 : UInt8), (2 : UInt8), (3 : UInt8), (3 : UInt8), (3 : UInt8), (3 : UInt8), (4 : UInt8), (4 : UInt8), (4 : UInt8), (4 : UInt8), (4 : UInt8), (4 : UInt8), (4 : UInt8), (4 : UInt8), (5 : UInt8),
              (5 : UInt8), (5 : UInt8), (5 : UInt8), (5 : UInt8), (5 : UInt8), (5 : UInt8), (5 : UInt8), (5 : UInt8), (5 : UInt8), (5 : UInt8), (5 : UInt8), (5 : UInt8), (5 : UInt8), (5 : UInt8), (5 : UInt8), (6 : UInt8), (6 : UInt8),
              (6 : UInt8), (6 : UInt8), (6 : UInt8), (6 : UInt8), (6 : UInt8), (6 : UInt8), (6 : UInt8), (6 : UInt8), (6 : UInt8), (6 : UInt8), (6 : UInt8), (6 : UInt8), (6 : UInt8), (6 : UInt8), (6 : UInt8), (6 : UInt8), (6 : UInt8),
              (6 : UInt8), (6 : UInt8), (6 : UInt8), (6 : UInt8), (6 : UInt8), (6 : UInt8), (6 : UInt8), (6 : UInt8), (6 : UInt8), (6 : UInt8), (6 : UInt8), (6 : UInt8), (6 : UInt8), (7 : UInt8), (7 : UInt8), (7 : UInt8), (7 : UInt8),
              (7 : UInt8), (7 : UInt8), (7 : UInt8), (7 : UInt8), (7 : UInt8), (7 : UInt8), (7 : UInt8), (7 : UInt8), (7 : UInt8), (7 : UInt8), (7 : UInt8), (7 : UInt8), (7 : UInt8), (7 : UInt8), (7 : UInt8), (7 : UInt8), (7 : UInt8),
              (7 : UInt8), (7 : UInt8), (7 : UInt8), (7 : UInt8), (7 : UInt8), (7 : UInt8), (7 : UInt8), (7 : UInt8), (7 : UInt8), (7 : UInt8), (7 : UInt8), (7 : UInt8), (7 : UInt8), (7 : UInt8), (7 : UInt8), (7 : UInt8), (7 : UInt8),
              (7 : UInt8), (7 : UInt8), (7 : UInt8), (7 : UInt8), (7 : UInt8), (7 : UInt8), (7 : UInt8), (7 : UInt8), (7 : UInt8), (7 : UInt8), (7 : UInt8), (7 : UInt8), (7 : UInt8), (7 : UInt8), (7 : UInt8), (7 : UInt8), (7 : UInt8),
              (7 : UInt8), (7 : UInt8), (7 : UInt8), (7 : UInt8), (7 : UInt8), (7 : UInt8), (7 : UInt8), (7 : UInt8), (7 : UInt8), (8 : UInt8), (8 : UInt8), (8 : UInt8), (8 : UInt8), (8 : UInt8), (8 : UInt8), (8 : UInt8), (8 : UInt8),
              (8 : UInt8), (8 : UInt8), (8 : UInt8), (8 : UInt8), (8 : UInt8), (8 : UInt8), (8 : UInt8), (8 : UInt8), (8 : UInt8), (8 : UInt8), (8 : UInt8), (8 : UInt8), (8 : UInt8), (8 : UInt8), (8 : UInt8), (8 : UInt8), (8 : UInt8),
              (8 : UInt8), (8 : UInt8), (8 : UInt8), (8 : UInt8), (8 : UInt8), (8 : UInt8), (8 : UInt8), (8 : UInt8), (8 : UInt8), (8 : UInt8), (8 : UInt8), (8 : UInt8), (8 : UInt8), (8 : UInt8), (8 : UInt8), (8 : UInt8), (8 : UInt8),
              (8 : UInt8), (8 : UInt8), (8 : UInt8), (8 : UInt8), (8 : UInt8), (8 : UInt8), (8 : UInt8), (8 : UInt8), (8 : UInt8), (8 : UInt8), (8 : UInt8), (8 : UInt8), (8 : UInt8), (8 : UInt8), (8 : UInt8), (8 : UInt8), (8 : UInt8),
              (8 : UInt8), (8 : UInt8), (8 : UInt8), (8 : UInt8), (8 : UInt8), (8 : UInt8), (8 : UInt8), (8 : UInt8), (8 : UInt8), (8 : UInt8), (8 : UInt8), (8 : UInt8), (8 : UInt8), (8 : UInt8), (8 : UInt8), (8 : UInt8), (8 : UInt8),
              (8 : UInt8), (8 : UInt8), (8 : UInt8), (8 : UInt8), (8 : UInt8), (8 : UInt8), (8 : UInt8), (8 : UInt8), (8 : UInt8), (8 : UInt8), (8 : UInt8), (8 : UInt8), (8 : UInt8), (8 : UInt8), (8 : UInt8), (8 : UInt8), (8 : UInt8),
              (8 : UInt8), (8 : UInt8), (8 : UInt8), (8 : UInt8), (8 : UInt8), (8 : UInt8), (8 : UInt8), (8 : UInt8), (8 : UInt8), (8 : UInt8), (8 : UInt8), (8 : UInt8), (8 : UInt8), (8 : UInt8), (8 : UInt8), (8 : UInt8), (8 : UInt8),
              (8 : UInt8), (8 : UInt8), (8 : UInt8), (8 : UInt8), (8 : UInt8), (8 : UInt8), (8 : UInt8), (8 : UInt8), (8 : UInt8), (8 : UInt8), (8 : UInt8), (8 : UInt8), (8 : UInt8), (8 : UInt8), (8 : UInt8), (8 : UInt8), (8 : UInt8),
              (8 : UInt8)]
            (Int.toNat (IntKind.wrap IntKind.u8 x)) fun (c7 : Int) => Q (IV.int IntKind.i64 (IntKind.wrap IntKind.i64 ((0 : Int) + IntKind.wrap IntKind.i64 c7))) h))))) := by kernel_rfl
theorem sLen64 : ∀ xs h Q, kLen64 xs h Q → CallW env 62 xs h Q := by
  intro xs h Q hk
  unfold kLen64 at hk
  split at hk
  · rename_i x
    refine dF_sound (okRMul) (mp_eq (vLen64 x h Q) ?_)
    obtain ⟨⟨h1, h2⟩, hk⟩ := hk
    have f : ∀ z p : Int, 0 ≤ p → z.fdiv p = z / p := fun z p hp => Int.fdiv_eq_ediv_of_nonneg _ hp
    have f1 := fun z => f z 4294967296 (by omega)
    have f2 := fun z => f z 65536 (by omega)
    have f3 := fun z => f z 256 (by omega)
    have s1 := fun (z : Int) (hz : (4294967296 : Int) ≤ z) => bitl_int (x := z) 32 4294967296 (by decide) (by omega)
    have s2 := fun (z : Int) (hz : (65536 : Int) ≤ z) => bitl_int (x := z) 16 65536 (by decide) (by omega)
    have s3 := fun (z : Int) (hz : (256 : Int) ≤ z) => bitl_int (x := z) 8 256 (by decide) (by omega)
    simp only [Int.cast_ofNat_Int] at s1 s2 s3
    refine brS_intro (fun c1 => brS_intro (fun c2 => brS_intro (fun c3 => ?_) (fun c3 => ?_)) (fun c2 => brS_intro (fun c3 => ?_) (fun c3 => ?_))) (fun c1 => brS_intro (fun c2 => brS_intro (fun c3 => ?_) (fun c3 => ?_)) (fun c2 => brS_intro (fun c3 => ?_) (fun c3 => ?_)))
    all_goals simp only [decide_eq_true_eq, decide_eq_false_iff_not, f1, f2, f3] at c1 c2 c3
    all_goals refine len_leaf (n := x.toNat) (by (try simp only [f1, f2, f3]); omega) (by (try simp only [f1, f2, f3]); omega) (by omega) ?_ hk _ (by kernel_rfl)
    all_goals try simp only [f1, f2, f3]
    · rw [s1 _ c1, s2 _ c2, s3 _ c3]; omega
    · rw [s1 _ c1, s2 _ c2]; omega
    · rw [s1 _ c1, s3 _ c3]; omega
    · rw [s1 _ c1]; omega
    · rw [s2 _ c2, s3 _ c3]; omega
    · rw [s2 _ c2]; omega
    · rw [s3 _ c3]; omega
    · omega
  · exact hk.elim
def cLen64 := addC 62 kLen64 cRMul
theorem okLen64 : Sound env cLen64 := sound_add sLen64 (okRMul)

def kMul64 (xs : List IV) (h : Heap) (K : IV → Heap → Prop) : Prop := match xs with
  | [.int .u64 x, .int .u64 y] => ((0 ≤ x ∧ x ≤ 18446744073709551615) ∧ (0 ≤ y ∧ y ≤ 18446744073709551615)) ∧ K (.tuple [.int .u64 (mulHi x y), .int .u64 (IntKind.u64.wrap (x * y))]) h
  | _ => False
set_option maxRecDepth 100000 in
theorem vMul64 (x y : Int) (h : Heap) (Q : IV → Heap → Prop) : dF (stdS cLen64) env 61 noU noI noI [.int .u64 x, .int .u64 y] h Q = (
  Q
    (IV.tuple
      [IV.int IntKind.u64
          (IntKind.wrap IntKind.u64
            (IntKind.wrap IntKind.u64
                (IntKind.wrap IntKind.u64 (Int.fdiv x (4294967296 : Int) * Int.fdiv y (4294967296 : Int)) +
                  Int.fdiv
                    (IntKind.wrap IntKind.u64
                      (IntKind.wrap IntKind.u64 (Int.fdiv x (4294967296 : Int) * bvAnd IntKind.u64 y (4294967295 : Int)) +
                        Int.fdiv (IntKind.wrap IntKind.u64 (bvAnd IntKind.u64 x (4294967295 : Int) * bvAnd IntKind.u64 y (4294967295 : Int))) (4294967296 : Int)))
                    (4294967296 : Int)) +
              Int.fdiv
                (IntKind.wrap IntKind.u64
                  (bvAnd IntKind.u64
                      (IntKind.wrap IntKind.u64
                        (IntKind.wrap IntKind.u64 (Int.fdiv x (4294967296 : Int) * bvAnd IntKind.u64 y (4294967295 : Int)) +
                          Int.fdiv (IntKind.wrap IntKind.u64 (bvAnd IntKind.u64 x (4294967295 : Int) * bvAnd IntKind.u64 y (4294967295 : Int))) (4294967296 : Int)))
                      (4294967295 : Int) +
                    IntKind.wrap IntKind.u64 (bvAnd IntKind.u64 x (4294967295 : Int) * Int.fdiv y (4294967296 : Int))))
                (4294967296 : Int))),
        IV.int IntKind.u64 (IntKind.wrap IntKind.u64 (x * y))])
    h) := by kernel_rfl
theorem sMul64 : ∀ xs h Q, kMul64 xs h Q → CallW env 61 xs h Q := by
  intro xs h Q hk
  unfold kMul64 at hk
  split at hk
  · rename_i x y
    refine dF_sound (okLen64) (mp_eq (vMul64 x y h Q) ?_)
    obtain ⟨⟨⟨h1, h2⟩, h3, h4⟩, hk⟩ := hk
    rw [mul64_plain h1 h2 h3 h4]
    exact hk
  · exact hk.elim
def cMul64 := addC 61 kMul64 cLen64
theorem okMul64 : Sound env cMul64 := sound_add sMul64 (okLen64)

def kProduct (xs : List IV) (h : Heap) (K : IV → Heap → Prop) : Prop := match xs with
  | [.int .i64 a, .int .i64 b] => (inR a ∧ inR b) ∧ K (.tuple [.int .i64 (IntKind.i64.wrap (a * b)), .bool (inRb (a * b))]) h
  | _ => False
set_option maxRecDepth 100000 in
theorem vProduct (a b : Int) (h : Heap) (Q : IV → Heap → Prop) : dF (stdS cMul64) env 39 noU noI noI [.int .i64 a, .int .i64 b] h Q = (
  (((0 : Int) ≤ IntKind.wrap IntKind.u64 a ∧ IntKind.wrap IntKind.u64 a ≤ (18446744073709551615 : Int)) ∧ (0 : Int) ≤ IntKind.wrap IntKind.u64 b ∧ IntKind.wrap IntKind.u64 b ≤ (18446744073709551615 : Int)) ∧
    brS (decide (a < (0 : Int)))
      (brS (decide (b < (0 : Int)))
        (Q
          (IV.tuple
            [IV.int IntKind.i64 (IntKind.wrap IntKind.i64 (IntKind.wrap IntKind.u64 (IntKind.wrap IntKind.u64 a * IntKind.wrap IntKind.u64 b))),
              IV.bool
                (IntKind.wrap IntKind.i64 (IntKind.wrap IntKind.i64 (IntKind.wrap IntKind.i64 (mulHi (IntKind.wrap IntKind.u64 a) (IntKind.wrap IntKind.u64 b)) - b) - a) ==
                  Int.fdiv (IntKind.wrap IntKind.i64 (IntKind.wrap IntKind.u64 (IntKind.wrap IntKind.u64 a * IntKind.wrap IntKind.u64 b))) (9223372036854775808 : Int))])
          h)
        (Q
          (IV.tuple
            [IV.int IntKind.i64 (IntKind.wrap IntKind.i64 (IntKind.wrap IntKind.u64 (IntKind.wrap IntKind.u64 a * IntKind.wrap IntKind.u64 b))),
              IV.bool
                (IntKind.wrap IntKind.i64 (IntKind.wrap IntKind.i64 (mulHi (IntKind.wrap IntKind.u64 a) (IntKind.wrap IntKind.u64 b)) - b) ==
                  Int.fdiv (IntKind.wrap IntKind.i64 (IntKind.wrap IntKind.u64 (IntKind.wrap IntKind.u64 a * IntKind.wrap IntKind.u64 b))) (9223372036854775808 : Int))])
          h))
      (brS (decide (b < (0 : Int)))
        (Q
          (IV.tuple
            [IV.int IntKind.i64 (IntKind.wrap IntKind.i64 (IntKind.wrap IntKind.u64 (IntKind.wrap IntKind.u64 a * IntKind.wrap IntKind.u64 b))),
              IV.bool
                (IntKind.wrap IntKind.i64 (IntKind.wrap IntKind.i64 (mulHi (IntKind.wrap IntKind.u64 a) (IntKind.wrap IntKind.u64 b)) - a) ==
                  Int.fdiv (IntKind.wrap IntKind.i64 (IntKind.wrap IntKind.u64 (IntKind.wrap IntKind.u64 a * IntKind.wrap IntKind.u64 b))) (9223372036854775808 : Int))])
          h)
        (Q
          (IV.tuple
            [IV.int IntKind.i64 (IntKind.wrap IntKind.i64 (IntKind.wrap IntKind.u64 (IntKind.wrap IntKind.u64 a * IntKind.wrap IntKind.u64 b))),
              IV.bool
                (IntKind.wrap IntKind.i64 (mulHi (IntKind.wrap IntKind.u64 a) (IntKind.wrap IntKind.u64 b)) ==
                  Int.fdiv (IntKind.wrap IntKind.i64 (IntKind.wrap IntKind.u64 (IntKind.wrap IntKind.u64 a * IntKind.wrap IntKind.u64 b))) (9223372036854775808 : Int))])
          h))) := by kernel_rfl
theorem sProduct : ∀ xs h Q, kProduct xs h Q → CallW env 39 xs h Q := by
  intro xs h Q hk
  unfold kProduct at hk
  split at hk
  · rename_i a b
    refine dF_sound (okMul64) (mp_eq (vProduct a b h Q) ?_)
    obtain ⟨⟨ha, hb⟩, hk⟩ := hk
    have hu : ∀ z, 0 ≤ IntKind.u64.wrap z ∧ IntKind.u64.wrap z ≤ 18446744073709551615 := fun z => by rw [u64w]; omega
    refine ⟨⟨hu a, hu b⟩, ?_⟩
    simp only [mul_wrap, wrap_sub1]
    refine brS_intro (fun c1 => brS_intro (fun c2 => q_eq hk ?_) (fun c2 => q_eq hk ?_)) (fun c1 => brS_intro (fun c2 => q_eq hk ?_) (fun c2 => q_eq hk ?_))
    all_goals simp only [decide_eq_true_eq, decide_eq_false_iff_not] at c1 c2
    · rw [smul_ok' ha hb (by rw [if_pos c1, if_pos c2])]
    · rw [smul_ok' ha hb (by rw [if_pos c1, if_neg c2]; omega)]
    · rw [smul_ok' ha hb (by rw [if_neg c1, if_pos c2]; omega)]
    · rw [smul_ok' ha hb (by rw [if_neg c1, if_neg c2]; omega)]
  · exact hk.elim
def cProduct := addC 39 kProduct cMul64
theorem okProduct : Sound env cProduct := sound_add sProduct (okMul64)

def kQuotC (xs : List IV) (h : Heap) (K : IV → Heap → Prop) : Prop := match xs with
  | [.int .i64 a, .int .i64 b] => (inR a ∧ 1 ≤ b) ∧ K (.tuple [.int .i64 (a.tdiv b), .bool true]) h
  | _ => False
set_option maxRecDepth 100000 in
theorem vQuotC (a b : Int) (h : Heap) (Q : IV → Heap → Prop) : dF (stdS cProduct) env 40 noU noI noI [.int .i64 a, .int .i64 b] h Q = (
  needS (!b == (0 : Int)) (Q (IV.tuple [IV.int IntKind.i64 (IntKind.wrap IntKind.i64 (Int.tdiv a b)), IV.bool true]) h)) := by kernel_rfl
theorem sQuotC : ∀ xs h Q, kQuotC xs h Q → CallW env 40 xs h Q := by
  intro xs h Q hk
  unfold kQuotC at hk
  split at hk
  · rename_i a b
    refine dF_sound (okProduct) (mp_eq (vQuotC a b h Q) ?_)
    obtain ⟨⟨ha, hb⟩, hk⟩ := hk
    refine needS_intro (by simp; omega) ?_
    rw [tdiv_in ha (by omega) (by omega)]
    exact hk
  · exact hk.elim
def cQuotC := addC 40 kQuotC cProduct
theorem okQuotC : Sound env cQuotC := sound_add sQuotC (okProduct)

def kCornersM (xs : List IV) (h : Heap) (K : IV → Heap → Prop) : Prop := match xs with
  | [.agg [.int .i64 a, .int .i64 b], .agg [.int .i64 c, .int .i64 d], .func (.func 39) [] []] => ((inR a ∧ inR b) ∧ (inR c ∧ inR d)) ∧ K (.agg [.int .i64 (imul a b c d).1, .int .i64 (imul a b c d).2]) h
  | _ => False
set_option maxRecDepth 100000 in
theorem vCornersM (a b c d : Int) (h : Heap) (Q : IV → Heap → Prop) : dF (stdS cQuotC) env 38 (fun k => match Nat.beq k 4 with | true => 3 | false => match Nat.beq k 7 with | true => 3 | false => 0) noI noI [.agg [.int .i64 a, .int .i64 b], .agg [.int .i64 c, .int .i64 d], .func (.func 39) [] []] h Q = (
  (inR a ∧ inR c) ∧
    brS (!inRb (a * c)) (Q (IV.agg [IV.int IntKind.i64 (-9223372036854775808 : Int), IV.int IntKind.i64 (9223372036854775807 : Int)]) h)
      ((inR a ∧ inR d) ∧
        brS (!inRb (a * d)) (Q (IV.agg [IV.int IntKind.i64 (-9223372036854775808 : Int), IV.int IntKind.i64 (9223372036854775807 : Int)]) h)
          ((inR b ∧ inR c) ∧
            brS (!inRb (b * c)) (Q (IV.agg [IV.int IntKind.i64 (-9223372036854775808 : Int), IV.int IntKind.i64 (9223372036854775807 : Int)]) h)
              ((inR b ∧ inR d) ∧
                brS (!inRb (b * d)) (Q (IV.agg [IV.int IntKind.i64 (-9223372036854775808 : Int), IV.int IntKind.i64 (9223372036854775807 : Int)]) h)
                  (Q
                    (IV.agg
                      [IV.int IntKind.i64 (min (min (min (IntKind.wrap IntKind.i64 (a * c)) (IntKind.wrap IntKind.i64 (a * d))) (IntKind.wrap IntKind.i64 (b * c))) (IntKind.wrap IntKind.i64 (b * d))),
                        IV.int IntKind.i64 (max (max (max (IntKind.wrap IntKind.i64 (a * c)) (IntKind.wrap IntKind.i64 (a * d))) (IntKind.wrap IntKind.i64 (b * c))) (IntKind.wrap IntKind.i64 (b * d)))])
                    h))))) := by kernel_rfl
theorem sCornersM : ∀ xs h Q, kCornersM xs h Q → CallW env 38 xs h Q := by
  intro xs h Q hk
  unfold kCornersM at hk
  split at hk
  · rename_i a b c d
    refine dF_sound (okQuotC) (mp_eq (vCornersM a b c d h Q) ?_)
    obtain ⟨⟨⟨ha, hb⟩, hc, hd⟩, hk⟩ := hk
    refine ⟨⟨ha, hc⟩, brS_intro (fun c1 => q_eq hk ?_) (fun c1 => ⟨⟨ha, hd⟩, brS_intro (fun c2 => q_eq hk ?_) (fun c2 => ⟨⟨hb, hc⟩, brS_intro (fun c3 => q_eq hk ?_) (fun c3 => ⟨⟨hb, hd⟩, brS_intro (fun c4 => q_eq hk ?_) (fun c4 => q_eq hk ?_)⟩)⟩)⟩)⟩
    all_goals simp only [Bool.not_eq_true', Bool.not_eq_false'] at *
    all_goals unfold imul
    · simp [c1]
    · simp [c2]
    · simp [c3]
    · simp [c4]
    · rw [inRb_wrap c1, inRb_wrap c2, inRb_wrap c3, inRb_wrap c4]
      simp only [c1, c2, c3, c4, Bool.and_self, if_true, min4, max4, Int.min_assoc, Int.max_assoc]
  · exact hk.elim
def cCornersM := addC 38 kCornersM cQuotC
theorem okCornersM : Sound env cCornersM := sound_add sCornersM (okQuotC)

def kCornersD (xs : List IV) (h : Heap) (K : IV → Heap → Prop) : Prop := match xs with
  | [.agg [.int .i64 a, .int .i64 b], .agg [.int .i64 c, .int .i64 d], .func (.func 40) [] []] => ((((inR a ∧ inR b) ∧ (inR c ∧ inR d))) ∧ 1 ≤ c ∧ c ≤ d) ∧ K (.agg [.int .i64 (idiv a b c d).1, .int .i64 (idiv a b c d).2]) h
  | _ => False
set_option maxRecDepth 100000 in
theorem vCornersD (a b c d : Int) (h : Heap) (Q : IV → Heap → Prop) : dF (stdS cCornersM) env 38 (fun k => match Nat.beq k 4 with | true => 3 | false => match Nat.beq k 7 with | true => 3 | false => 0) noI noI [.agg [.int .i64 a, .int .i64 b], .agg [.int .i64 c, .int .i64 d], .func (.func 40) [] []] h Q = (
  (inR a ∧ (1 : Int) ≤ c) ∧
    (inR a ∧ (1 : Int) ≤ d) ∧
      (inR b ∧ (1 : Int) ≤ c) ∧
        (inR b ∧ (1 : Int) ≤ d) ∧
          Q (IV.agg [IV.int IntKind.i64 (min (min (min (Int.tdiv a c) (Int.tdiv a d)) (Int.tdiv b c)) (Int.tdiv b d)), IV.int IntKind.i64 (max (max (max (Int.tdiv a c) (Int.tdiv a d)) (Int.tdiv b c)) (Int.tdiv b d))]) h) := by kernel_rfl
theorem sCornersD : ∀ xs h Q, kCornersD xs h Q → CallW env 38 xs h Q := by
  intro xs h Q hk
  unfold kCornersD at hk
  split at hk
  · rename_i a b c d
    refine dF_sound (okCornersM) (mp_eq (vCornersD a b c d h Q) ?_)
    obtain ⟨⟨⟨⟨ha, hb⟩, hc, hd⟩, h1, h2⟩, hk⟩ := hk
    refine ⟨⟨ha, h1⟩, ⟨ha, by omega⟩, ⟨hb, h1⟩, ⟨hb, by omega⟩, q_eq hk ?_⟩
    unfold idiv
    rw [if_neg (by omega)]
    simp only [min4, max4, Int.min_assoc, Int.max_assoc]
  · exact hk.elim
def cCornersD := addC 38 kCornersD cCornersM
theorem okCornersD : Sound env cCornersD := sound_add sCornersD (okCornersM)

def kBitwise (xs : List IV) (h : Heap) (K : IV → Heap → Prop) : Prop := match xs with
  | [.int .i64 o, .agg [.int .i64 a, .int .i64 b], .agg [.int .i64 c, .int .i64 d]] => ((o = 9 ∨ o = 10 ∨ o = 11) ∧ ((inR a ∧ inR b) ∧ (inR c ∧ inR d)) ∧ a ≤ b ∧ c ≤ d) ∧ K (.agg [.int .i64 (ibit' o a b c d).1, .int .i64 (ibit' o a b c d).2]) h
  | _ => False
set_option maxRecDepth 100000 in
theorem vBitwise (o a b c d : Int) (h : Heap) (Q : IV → Heap → Prop) : dF (stdS cCornersD) env 42 noU noI noI [.int .i64 o, .agg [.int .i64 a, .int .i64 b], .agg [.int .i64 c, .int .i64 d]] h Q = (
  brS (o == (9 : Int))
    (brS (decide (a ≥ (0 : Int)))
      (brS (decide (c ≥ (0 : Int))) (Q (IV.agg [IV.int IntKind.i64 (0 : Int), IV.int IntKind.i64 (if d < b then d else b)]) h)
        (brS (o == (9 : Int))
          (brS (decide (a ≥ (0 : Int))) (Q (IV.agg [IV.int IntKind.i64 (0 : Int), IV.int IntKind.i64 b]) h)
            (brS (o == (9 : Int))
              (brS (decide (c ≥ (0 : Int))) (Q (IV.agg [IV.int IntKind.i64 (0 : Int), IV.int IntKind.i64 d]) h)
                (brS (o == (9 : Int)) (Q (IV.agg [IV.int IntKind.i64 (-9223372036854775808 : Int), IV.int IntKind.i64 (9223372036854775807 : Int)]) h)
                  (brS (decide (a < (0 : Int))) (Q (IV.agg [IV.int IntKind.i64 (-9223372036854775808 : Int), IV.int IntKind.i64 (9223372036854775807 : Int)]) h)
                    (brS (decide (c < (0 : Int))) (Q (IV.agg [IV.int IntKind.i64 (-9223372036854775808 : Int), IV.int IntKind.i64 (9223372036854775807 : Int)]) h)
                      (((0 : Int) ≤ IntKind.wrap IntKind.u64 (if d > b then d else b) ∧ IntKind.wrap IntKind.u64 (if d > b then d else b) ≤ (18446744073709551615 : Int)) ∧
                        brS (o == (10 : Int))
                          (Q
                            (IV.agg
                              [IV.int IntKind.i64 (if c > a then c else a),
                                IV.int IntKind.i64
                                  (IntKind.wrap IntKind.i64
                                    (IntKind.wrap IntKind.i64 ((1 : Int) * (2 : Int) ^ min (Int.toNat (IntKind.wrap IntKind.u64 (↑(bitl (Int.toNat (IntKind.wrap IntKind.u64 (if d > b then d else b)))) : Int))) (64 : Nat)) - (1 : Int)))])
                            h)
                          (Q
                            (IV.agg
                              [IV.int IntKind.i64 (0 : Int),
                                IV.int IntKind.i64
                                  (IntKind.wrap IntKind.i64
                                    (IntKind.wrap IntKind.i64 ((1 : Int) * (2 : Int) ^ min (Int.toNat (IntKind.wrap IntKind.u64 (↑(bitl (Int.toNat (IntKind.wrap IntKind.u64 (if d > b then d else b)))) : Int))) (64 : Nat)) - (1 : Int)))])
                            h))))))
              (brS (o == (9 : Int)) (Q (IV.agg [IV.int IntKind.i64 (-9223372036854775808 : Int), IV.int IntKind.i64 (9223372036854775807 : Int)]) h)
                (brS (decide (a < (0 : Int))) (Q (IV.agg [IV.int IntKind.i64 (-9223372036854775808 : Int), IV.int IntKind.i64 (9223372036854775807 : Int)]) h)
                  (brS (decide (c < (0 : Int))) (Q (IV.agg [IV.int IntKind.i64 (-9223372036854775808 : Int), IV.int IntKind.i64 (9223372036854775807 : Int)]) h)
                    (((0 : Int) ≤ IntKind.wrap IntKind.u64 (if d > b then d else b) ∧ IntKind.wrap IntKind.u64 (if d > b then d else b) ≤ (18446744073709551615 : Int)) ∧
                      brS (o == (10 : Int))
                        (Q
                          (IV.agg
                            [IV.int IntKind.i64 (if c > a then c else a),
                              IV.int IntKind.i64
                                (IntKind.wrap IntKind.i64
                                  (IntKind.wrap IntKind.i64 ((1 : Int) * (2 : Int) ^ min (Int.toNat (IntKind.wrap IntKind.u64 (↑(bitl (Int.toNat (IntKind.wrap IntKind.u64 (if d > b then d else b)))) : Int))) (64 : Nat)) - (1 : Int)))])
                          h)
                        (Q
                          (IV.agg
                            [IV.int IntKind.i64 (0 : Int),
                              IV.int IntKind.i64
                                (IntKind.wrap IntKind.i64
                                  (IntKind.wrap IntKind.i64 ((1 : Int) * (2 : Int) ^ min (Int.toNat (IntKind.wrap IntKind.u64 (↑(bitl (Int.toNat (IntKind.wrap IntKind.u64 (if d > b then d else b)))) : Int))) (64 : Nat)) - (1 : Int)))])
                          h)))))))
          (brS (o == (9 : Int))
            (brS (decide (c ≥ (0 : Int))) (Q (IV.agg [IV.int IntKind.i64 (0 : Int), IV.int IntKind.i64 d]) h)
              (brS (o == (9 : Int)) (Q (IV.agg [IV.int IntKind.i64 (-9223372036854775808 : Int), IV.int IntKind.i64 (9223372036854775807 : Int)]) h)
                (brS (decide (a < (0 : Int))) (Q (IV.agg [IV.int IntKind.i64 (-9223372036854775808 : Int), IV.int IntKind.i64 (9223372036854775807 : Int)]) h)
                  (brS (decide (c < (0 : Int))) (Q (IV.agg [IV.int IntKind.i64 (-9223372036854775808 : Int), IV.int IntKind.i64 (9223372036854775807 : Int)]) h)
                    (((0 : Int) ≤ IntKind.wrap IntKind.u64 (if d > b then d else b) ∧ IntKind.wrap IntKind.u64 (if d > b then d else b) ≤ (18446744073709551615 : Int)) ∧
                      brS (o == (10 : Int))
                        (Q
                          (IV.agg
                            [IV.int IntKind.i64 (if c > a then c else a),
                              IV.int IntKind.i64
                                (IntKind.wrap IntKind.i64
                                  (IntKind.wrap IntKind.i64 ((1 : Int) * (2 : Int) ^ min (Int.toNat (IntKind.wrap IntKind.u64 (↑(bitl (Int.toNat (IntKind.wrap IntKind.u64 (if d > b then d else b)))) : Int))) (64 : Nat)) - (1 : Int)))])
                          h)
                        (Q
                          (IV.agg
                            [IV.int IntKind.i64 (0 : Int),
                              IV.int IntKind.i64
                                (IntKind.wrap IntKind.i64
                                  (IntKind.wrap IntKind.i64 ((1 : Int) * (2 : Int) ^ min (Int.toNat (IntKind.wrap IntKind.u64 (↑(bitl (Int.toNat (IntKind.wrap IntKind.u64 (if d > b then d else b)))) : Int))) (64 : Nat)) - (1 : Int)))])
                          h))))))
            (brS (o == (9 : Int)) (Q (IV.agg [IV.int IntKind.i64 (-9223372036854775808 : Int), IV.int IntKind.i64 (9223372036854775807 : Int)]) h)
              (brS (decide (a < (0 : Int))) (Q (IV.agg [IV.int IntKind.i64 (-9223372036854775808 : Int), IV.int IntKind.i64 (9223372036854775807 : Int)]) h)
                (brS (decide (c < (0 : Int))) (Q (IV.agg [IV.int IntKind.i64 (-9223372036854775808 : Int), IV.int IntKind.i64 (9223372036854775807 : Int)]) h)
                  (((0 : Int) ≤ IntKind.wrap IntKind.u64 (if d > b then d else b) ∧ IntKind.wrap IntKind.u64 (if d > b then d else b) ≤ (18446744073709551615 : Int)) ∧
                    brS (o == (10 : Int))
                      (Q
                        (IV.agg
                          [IV.int IntKind.i64 (if c > a then c else a),
                            IV.int IntKind.i64
                              (IntKind.wrap IntKind.i64
                                (IntKind.wrap IntKind.i64 ((1 : Int) * (2 : Int) ^ min (Int.toNat (IntKind.wrap IntKind.u64 (↑(bitl (Int.toNat (IntKind.wrap IntKind.u64 (if d > b then d else b)))) : Int))) (64 : Nat)) - (1 : Int)))])
                        h)
                      (Q
                        (IV.agg
                          [IV.int IntKind.i64 (0 : Int),
                            IV.int IntKind.i64
                              (IntKind.wrap IntKind.i64
                                (IntKind.wrap IntKind.i64 ((1 : Int) * (2 : Int) ^ min (Int.toNat (IntKind.wrap IntKind.u64 (↑(bitl (Int.toNat (IntKind.wrap IntKind.u64 (if d > b then d else b)))) : Int))) (64 : Nat)) - (1 : Int)))])
                        h))))))))
      (brS (o == (9 : Int))
        (brS (decide (a ≥ (0 : Int))) (Q (IV.agg [IV.int IntKind.i64 (0 : Int), IV.int IntKind.i64 b]) h)
          (brS (o == (9 : Int))
            (brS (decide (c ≥ (0 : Int))) (Q (IV.agg [IV.int IntKind.i64 (0 : Int), IV.int IntKind.i64 d]) h)
              (brS (o == (9 : Int)) (Q (IV.agg [IV.int IntKind.i64 (-9223372036854775808 : Int), IV.int IntKind.i64 (9223372036854775807 : Int)]) h)
                (brS (decide (a < (0 : Int))) (Q (IV.agg [IV.int IntKind.i64 (-9223372036854775808 : Int), IV.int IntKind.i64 (9223372036854775807 : Int)]) h)
                  (brS (decide (c < (0 : Int))) (Q (IV.agg [IV.int IntKind.i64 (-9223372036854775808 : Int), IV.int IntKind.i64 (9223372036854775807 : Int)]) h)
                    (((0 : Int) ≤ IntKind.wrap IntKind.u64 (if d > b then d else b) ∧ IntKind.wrap IntKind.u64 (if d > b then d else b) ≤ (18446744073709551615 : Int)) ∧
                      brS (o == (10 : Int))
                        (Q
                          (IV.agg
                            [IV.int IntKind.i64 (if c > a then c else a),
                              IV.int IntKind.i64
                                (IntKind.wrap IntKind.i64
                                  (IntKind.wrap IntKind.i64 ((1 : Int) * (2 : Int) ^ min (Int.toNat (IntKind.wrap IntKind.u64 (↑(bitl (Int.toNat (IntKind.wrap IntKind.u64 (if d > b then d else b)))) : Int))) (64 : Nat)) - (1 : Int)))])
                          h)
                        (Q
                          (IV.agg
                            [IV.int IntKind.i64 (0 : Int),
                              IV.int IntKind.i64
                                (IntKind.wrap IntKind.i64
                                  (IntKind.wrap IntKind.i64 ((1 : Int) * (2 : Int) ^ min (Int.toNat (IntKind.wrap IntKind.u64 (↑(bitl (Int.toNat (IntKind.wrap IntKind.u64 (if d > b then d else b)))) : Int))) (64 : Nat)) - (1 : Int)))])
                          h))))))
            (brS (o == (9 : Int)) (Q (IV.agg [IV.int IntKind.i64 (-9223372036854775808 : Int), IV.int IntKind.i64 (9223372036854775807 : Int)]) h)
              (brS (decide (a < (0 : Int))) (Q (IV.agg [IV.int IntKind.i64 (-9223372036854775808 : Int), IV.int IntKind.i64 (9223372036854775807 : Int)]) h)
                (brS (decide (c < (0 : Int))) (Q (IV.agg [IV.int IntKind.i64 (-9223372036854775808 : Int), IV.int IntKind.i64 (9223372036854775807 : Int)]) h)
                  (((0 : Int) ≤ IntKind.wrap IntKind.u64 (if d > b then d else b) ∧ IntKind.wrap IntKind.u64 (if d > b then d else b) ≤ (18446744073709551615 : Int)) ∧
                    brS (o == (10 : Int))
                      (Q
                        (IV.agg
                          [IV.int IntKind.i64 (if c > a then c else a),
                            IV.int IntKind.i64
                              (IntKind.wrap IntKind.i64
                                (IntKind.wrap IntKind.i64 ((1 : Int) * (2 : Int) ^ min (Int.toNat (IntKind.wrap IntKind.u64 (↑(bitl (Int.toNat (IntKind.wrap IntKind.u64 (if d > b then d else b)))) : Int))) (64 : Nat)) - (1 : Int)))])
                        h)
                      (Q
                        (IV.agg
                          [IV.int IntKind.i64 (0 : Int),
                            IV.int IntKind.i64
                              (IntKind.wrap IntKind.i64
                                (IntKind.wrap IntKind.i64 ((1 : Int) * (2 : Int) ^ min (Int.toNat (IntKind.wrap IntKind.u64 (↑(bitl (Int.toNat (IntKind.wrap IntKind.u64 (if d > b then d else b)))) : Int))) (64 : Nat)) - (1 : Int)))])
                        h)))))))
        (brS (o == (9 : Int))
          (brS (decide (c ≥ (0 : Int))) (Q (IV.agg [IV.int IntKind.i64 (0 : Int), IV.int IntKind.i64 d]) h)
            (brS (o == (9 : Int)) (Q (IV.agg [IV.int IntKind.i64 (-9223372036854775808 : Int), IV.int IntKind.i64 (9223372036854775807 : Int)]) h)
              (brS (decide (a < (0 : Int))) (Q (IV.agg [IV.int IntKind.i64 (-9223372036854775808 : Int), IV.int IntKind.i64 (9223372036854775807 : Int)]) h)
                (brS (decide (c < (0 : Int))) (Q (IV.agg [IV.int IntKind.i64 (-9223372036854775808 : Int), IV.int IntKind.i64 (9223372036854775807 : Int)]) h)
                  (((0 : Int) ≤ IntKind.wrap IntKind.u64 (if d > b then d else b) ∧ IntKind.wrap IntKind.u64 (if d > b then d else b) ≤ (18446744073709551615 : Int)) ∧
                    brS (o == (10 : Int))
                      (Q
                        (IV.agg
                          [IV.int IntKind.i64 (if c > a then c else a),
                            IV.int IntKind.i64
                              (IntKind.wrap IntKind.i64
                                (IntKind.wrap IntKind.i64 ((1 : Int) * (2 : Int) ^ min (Int.toNat (IntKind.wrap IntKind.u64 (↑(bitl (Int.toNat (IntKind.wrap IntKind.u64 (if d > b then d else b)))) : Int))) (64 : Nat)) - (1 : Int)))])
                        h)
                      (Q
                        (IV.agg
                          [IV.int IntKind.i64 (0 : Int),
                            IV.int IntKind.i64
                              (IntKind.wrap IntKind.i64
                                (IntKind.wrap IntKind.i64 ((1 : Int) * (2 : Int) ^ min (Int.toNat (IntKind.wrap IntKind.u64 (↑(bitl (Int.toNat (IntKind.wrap IntKind.u64 (if d > b then d else b)))) : Int))) (64 : Nat)) - (1 : Int)))])
                        h))))))
          (brS (o == (9 : Int)) (Q (IV.agg [IV.int IntKind.i64 (-9223372036854775808 : Int), IV.int IntKind.i64 (9223372036854775807 : Int)]) h)
            (brS (decide (a < (0 : Int))) (Q (IV.agg [IV.int IntKind.i64 (-9223372036854775808 : Int), IV.int IntKind.i64 (9223372036854775807 : Int)]) h)
              (brS (decide (c < (0 : Int))) (Q (IV.agg [IV.int IntKind.i64 (-9223372036854775808 : Int), IV.int IntKind.i64 (9223372036854775807 : Int)]) h)
                (((0 : Int) ≤ IntKind.wrap IntKind.u64 (if d > b then d else b) ∧ IntKind.wrap IntKind.u64 (if d > b then d else b) ≤ (18446744073709551615 : Int)) ∧
                  brS (o == (10 : Int))
                    (Q
                      (IV.agg
                        [IV.int IntKind.i64 (if c > a then c else a),
                          IV.int IntKind.i64
                            (IntKind.wrap IntKind.i64
                              (IntKind.wrap IntKind.i64 ((1 : Int) * (2 : Int) ^ min (Int.toNat (IntKind.wrap IntKind.u64 (↑(bitl (Int.toNat (IntKind.wrap IntKind.u64 (if d > b then d else b)))) : Int))) (64 : Nat)) - (1 : Int)))])
                      h)
                    (Q
                      (IV.agg
                        [IV.int IntKind.i64 (0 : Int),
                          IV.int IntKind.i64
                            (IntKind.wrap IntKind.i64
                              (IntKind.wrap IntKind.i64 ((1 : Int) * (2 : Int) ^ min (Int.toNat (IntKind.wrap IntKind.u64 (↑(bitl (Int.toNat (IntKind.wrap IntKind.u64 (if d > b then d else b)))) : Int))) (64 : Nat)) - (1 : Int)))])
                      h))))))))
    (brS (o == (9 : Int))
      (brS (decide (a ≥ (0 : Int))) (Q (IV.agg [IV.int IntKind.i64 (0 : Int), IV.int IntKind.i64 b]) h)
        (brS (o == (9 : Int))
          (brS (decide (c ≥ (0 : Int))) (Q (IV.agg [IV.int IntKind.i64 (0 : Int), IV.int IntKind.i64 d]) h)
            (brS (o == (9 : Int)) (Q (IV.agg [IV.int IntKind.i64 (-9223372036854775808 : Int), IV.int IntKind.i64 (9223372036854775807 : Int)]) h)
              (brS (decide (a < (0 : Int))) (Q (IV.agg [IV.int IntKind.i64 (-9223372036854775808 : Int), IV.int IntKind.i64 (9223372036854775807 : Int)]) h)
                (brS (decide (c < (0 : Int))) (Q (IV.agg [IV.int IntKind.i64 (-9223372036854775808 : Int), IV.int IntKind.i64 (9223372036854775807 : Int)]) h)
                  (((0 : Int) ≤ IntKind.wrap IntKind.u64 (if d > b then d else b) ∧ IntKind.wrap IntKind.u64 (if d > b then d else b) ≤ (18446744073709551615 : Int)) ∧
                    brS (o == (10 : Int))
                      (Q
                        (IV.agg
                          [IV.int IntKind.i64 (if c > a then c else a),
                            IV.int IntKind.i64
                              (IntKind.wrap IntKind.i64
                                (IntKind.wrap IntKind.i64 ((1 : Int) * (2 : Int) ^ min (Int.toNat (IntKind.wrap IntKind.u64 (↑(bitl (Int.toNat (IntKind.wrap IntKind.u64 (if d > b then d else b)))) : Int))) (64 : Nat)) - (1 : Int)))])
                        h)
                      (Q
                        (IV.agg
                          [IV.int IntKind.i64 (0 : Int),
                            IV.int IntKind.i64
                              (IntKind.wrap IntKind.i64
                                (IntKind.wrap IntKind.i64 ((1 : Int) * (2 : Int) ^ min (Int.toNat (IntKind.wrap IntKind.u64 (↑(bitl (Int.toNat (IntKind.wrap IntKind.u64 (if d > b then d else b)))) : Int))) (64 : Nat)) - (1 : Int)))])
                        h))))))
          (brS (o == (9 : Int)) (Q (IV.agg [IV.int IntKind.i64 (-9223372036854775808 : Int), IV.int IntKind.i64 (9223372036854775807 : Int)]) h)
            (brS (decide (a < (0 : Int))) (Q (IV.agg [IV.int IntKind.i64 (-9223372036854775808 : Int), IV.int IntKind.i64 (9223372036854775807 : Int)]) h)
              (brS (decide (c < (0 : Int))) (Q (IV.agg [IV.int IntKind.i64 (-9223372036854775808 : Int), IV.int IntKind.i64 (9223372036854775807 : Int)]) h)
                (((0 : Int) ≤ IntKind.wrap IntKind.u64 (if d > b then d else b) ∧ IntKind.wrap IntKind.u64 (if d > b then d else b) ≤ (18446744073709551615 : Int)) ∧
                  brS (o == (10 : Int))
                    (Q
                      (IV.agg
                        [IV.int IntKind.i64 (if c > a then c else a),
                          IV.int IntKind.i64
                            (IntKind.wrap IntKind.i64
                              (IntKind.wrap IntKind.i64 ((1 : Int) * (2 : Int) ^ min (Int.toNat (IntKind.wrap IntKind.u64 (↑(bitl (Int.toNat (IntKind.wrap IntKind.u64 (if d > b then d else b)))) : Int))) (64 : Nat)) - (1 : Int)))])
                      h)
                    (Q
                      (IV.agg
                        [IV.int IntKind.i64 (0 : Int),
                          IV.int IntKind.i64
                            (IntKind.wrap IntKind.i64
                              (IntKind.wrap IntKind.i64 ((1 : Int) * (2 : Int) ^ min (Int.toNat (IntKind.wrap IntKind.u64 (↑(bitl (Int.toNat (IntKind.wrap IntKind.u64 (if d > b then d else b)))) : Int))) (64 : Nat)) - (1 : Int)))])
                      h)))))))
      (brS (o == (9 : Int))
        (brS (decide (c ≥ (0 : Int))) (Q (IV.agg [IV.int IntKind.i64 (0 : Int), IV.int IntKind.i64 d]) h)
          (brS (o == (9 : Int)) (Q (IV.agg [IV.int IntKind.i64 (-9223372036854775808 : Int), IV.int IntKind.i64 (9223372036854775807 : Int)]) h)
            (brS (decide (a < (0 : Int))) (Q (IV.agg [IV.int IntKind.i64 (-9223372036854775808 : Int), IV.int IntKind.i64 (9223372036854775807 : Int)]) h)
              (brS (decide (c < (0 : Int))) (Q (IV.agg [IV.int IntKind.i64 (-9223372036854775808 : Int), IV.int IntKind.i64 (9223372036854775807 : Int)]) h)
                (((0 : Int) ≤ IntKind.wrap IntKind.u64 (if d > b then d else b) ∧ IntKind.wrap IntKind.u64 (if d > b then d else b) ≤ (18446744073709551615 : Int)) ∧
                  brS (o == (10 : Int))
                    (Q
                      (IV.agg
                        [IV.int IntKind.i64 (if c > a then c else a),
                          IV.int IntKind.i64
                            (IntKind.wrap IntKind.i64
                              (IntKind.wrap IntKind.i64 ((1 : Int) * (2 : Int) ^ min (Int.toNat (IntKind.wrap IntKind.u64 (↑(bitl (Int.toNat (IntKind.wrap IntKind.u64 (if d > b then d else b)))) : Int))) (64 : Nat)) - (1 : Int)))])
                      h)
                    (Q
                      (IV.agg
                        [IV.int IntKind.i64 (0 : Int),
                          IV.int IntKind.i64
                            (IntKind.wrap IntKind.i64
                              (IntKind.wrap IntKind.i64 ((1 : Int) * (2 : Int) ^ min (Int.toNat (IntKind.wrap IntKind.u64 (↑(bitl (Int.toNat (IntKind.wrap IntKind.u64 (if d > b then d else b)))) : Int))) (64 : Nat)) - (1 : Int)))])
                      h))))))
        (brS (o == (9 : Int)) (Q (IV.agg [IV.int IntKind.i64 (-9223372036854775808 : Int), IV.int IntKind.i64 (9223372036854775807 : Int)]) h)
          (brS (decide (a < (0 : Int))) (Q (IV.agg [IV.int IntKind.i64 (-9223372036854775808 : Int), IV.int IntKind.i64 (9223372036854775807 : Int)]) h)
            (brS (decide (c < (0 : Int))) (Q (IV.agg [IV.int IntKind.i64 (-9223372036854775808 : Int), IV.int IntKind.i64 (9223372036854775807 : Int)]) h)
              (((0 : Int) ≤ IntKind.wrap IntKind.u64 (if d > b then d else b) ∧ IntKind.wrap IntKind.u64 (if d > b then d else b) ≤ (18446744073709551615 : Int)) ∧
                brS (o == (10 : Int))
                  (Q
                    (IV.agg
                      [IV.int IntKind.i64 (if c > a then c else a),
                        IV.int IntKind.i64
                          (IntKind.wrap IntKind.i64
                            (IntKind.wrap IntKind.i64 ((1 : Int) * (2 : Int) ^ min (Int.toNat (IntKind.wrap IntKind.u64 (↑(bitl (Int.toNat (IntKind.wrap IntKind.u64 (if d > b then d else b)))) : Int))) (64 : Nat)) - (1 : Int)))])
                    h)
                  (Q
                    (IV.agg
                      [IV.int IntKind.i64 (0 : Int),
                        IV.int IntKind.i64
                          (IntKind.wrap IntKind.i64
                            (IntKind.wrap IntKind.i64 ((1 : Int) * (2 : Int) ^ min (Int.toNat (IntKind.wrap IntKind.u64 (↑(bitl (Int.toNat (IntKind.wrap IntKind.u64 (if d > b then d else b)))) : Int))) (64 : Nat)) - (1 : Int)))])
                    h)))))))) := by kernel_rfl
set_option maxHeartbeats 2000000 in
theorem sBitwise : ∀ xs h Q, kBitwise xs h Q → CallW env 42 xs h Q := by
  intro xs h Q hk
  unfold kBitwise at hk
  split at hk
  · rename_i o a b c d
    refine dF_sound (okCornersD) (mp_eq (vBitwise o a b c d h Q) ?_)
    obtain ⟨⟨ho, ⟨⟨ha, hb⟩, hc, hd⟩, hab, hcd⟩, hk⟩ := hk
    have m1 : ∀ x y : Int, (if y < x then y else x) = min x y := fun x y => by omega
    have m2 : ∀ x y : Int, (if y > x then y else x) = max x y := fun x y => by omega
    simp only [m1, m2]
    unfold inR at ha hb hc hd
    by_cases hs : 0 ≤ a ∧ 0 ≤ c
    · have e2 : IntKind.u64.wrap (max b d) = max b d := IntWalk.u64_in _ (by omega)
      simp only [e2, ones_ok (m := max b d) (by omega) (by omega)]
      repeat' (first | refine needS_intro ?_ ?_ | refine brS_intro (fun _ => ?_) (fun _ => ?_) | refine And.intro ?_ ?_)
      all_goals first | exact hk | omega | (refine q_eq hk ?_; simp only [IV.agg.injEq, IV.tuple.injEq, IV.int.injEq, IV.bool.injEq, List.cons.injEq, true_and, and_true]; grind [ibit'])
    · repeat' (first | refine needS_intro ?_ ?_ | refine brS_intro (fun _ => ?_) (fun _ => ?_) | refine And.intro ?_ ?_)
      all_goals first | exact hk | (exfalso; grind) | (refine q_eq hk ?_; simp only [IV.agg.injEq, IV.tuple.injEq, IV.int.injEq, IV.bool.injEq, List.cons.injEq, true_and, and_true]; grind [ibit'])
  · exact hk.elim
def cBitwise := addC 42 kBitwise cCornersD
theorem okBitwise : Sound env cBitwise := sound_add sBitwise (okCornersD)

def kRCorners (xs : List IV) (h : Heap) (K : IV → Heap → Prop) : Prop := match xs with
  | [.agg [.int .i64 a, .int .i64 b, .int .i64 c, .int .i64 d], .bool ok] => K (.agg [.int .i64 (if ok then (min4 a b c d, max4 a b c d) else (minW, maxW)).1, .int .i64 (if ok then (min4 a b c d, max4 a b c d) else (minW, maxW)).2]) h
  | _ => False
set_option maxRecDepth 100000 in
theorem vRCorners (a b c d : Int) (ok : Bool) (h : Heap) (Q : IV → Heap → Prop) : dF (stdS cBitwise) env 54 noU noI noI [.agg [.int .i64 a, .int .i64 b, .int .i64 c, .int .i64 d], .bool ok] h Q = (
  brS (!ok) (Q (IV.agg [IV.int IntKind.i64 (-9223372036854775808 : Int), IV.int IntKind.i64 (9223372036854775807 : Int)]) h)
    (Q
      (IV.agg
        [IV.int IntKind.i64 (if (if d < c then d else c) < if b < a then b else a then if d < c then d else c else if b < a then b else a),
          IV.int IntKind.i64 (if (if d > c then d else c) > if b > a then b else a then if d > c then d else c else if b > a then b else a)])
      h)) := by kernel_rfl
theorem sRCorners : ∀ xs h Q, kRCorners xs h Q → CallW env 54 xs h Q := by
  intro xs h Q hk
  unfold kRCorners at hk
  split at hk
  · rename_i a b c d ok
    refine dF_sound (okBitwise) (mp_eq (vRCorners a b c d ok h Q) ?_)
    have m1 : ∀ x y : Int, (if y < x then y else x) = min x y := fun x y => by omega
    have m2 : ∀ x y : Int, (if y > x then y else x) = max x y := fun x y => by omega
    simp only [m1, m2]
    cases ok
    · exact hk
    · exact hk
  · exact hk.elim
def cRCorners := addC 54 kRCorners cBitwise
theorem okRCorners : Sound env cRCorners := sound_add sRCorners (okBitwise)

def kRBitwise (xs : List IV) (h : Heap) (K : IV → Heap → Prop) : Prop := match xs with
  | [.int .i64 o, .agg [.int .i64 a, .int .i64 b], .agg [.int .i64 c, .int .i64 d]] => ((o = 9 ∨ o = 10 ∨ o = 11) ∧ ((inR a ∧ inR b) ∧ (inR c ∧ inR d)) ∧ a ≤ b ∧ c ≤ d) ∧ K (.agg [.int .i64 (ibit' o a b c d).1, .int .i64 (ibit' o a b c d).2]) h
  | _ => False
set_option maxRecDepth 100000 in
theorem vRBitwise (o a b c d : Int) (h : Heap) (Q : IV → Heap → Prop) : dF (stdS cRCorners) env 56 noU noI noI [.int .i64 o, .agg [.int .i64 a, .int .i64 b], .agg [.int .i64 c, .int .i64 d]] h Q = (
  brS (o == (9 : Int))
    (brS (decide (a ≥ (0 : Int)))
      (brS (decide (c ≥ (0 : Int))) (Q (IV.agg [IV.int IntKind.i64 (0 : Int), IV.int IntKind.i64 (if d < b then d else b)]) h)
        (brS (o == (9 : Int))
          (brS (decide (a ≥ (0 : Int))) (Q (IV.agg [IV.int IntKind.i64 (0 : Int), IV.int IntKind.i64 b]) h)
            (brS (o == (9 : Int))
              (brS (decide (c ≥ (0 : Int))) (Q (IV.agg [IV.int IntKind.i64 (0 : Int), IV.int IntKind.i64 d]) h)
                (brS (o == (10 : Int))
                  (brS (decide (a ≥ (0 : Int)))
                    (brS (decide (c ≥ (0 : Int))) (inR (if d > b then d else b) ∧ Q (IV.agg [IV.int IntKind.i64 (if c > a then c else a), IV.int IntKind.i64 (ones (if d > b then d else b))]) h)
                      (brS (o == (11 : Int))
                        (brS (decide (a ≥ (0 : Int)))
                          (brS (decide (c ≥ (0 : Int))) (inR (if d > b then d else b) ∧ Q (IV.agg [IV.int IntKind.i64 (0 : Int), IV.int IntKind.i64 (ones (if d > b then d else b))]) h)
                            (Q (IV.agg [IV.int IntKind.i64 (-9223372036854775808 : Int), IV.int IntKind.i64 (9223372036854775807 : Int)]) h))
                          (Q (IV.agg [IV.int IntKind.i64 (-9223372036854775808 : Int), IV.int IntKind.i64 (9223372036854775807 : Int)]) h))
                        (Q (IV.agg [IV.int IntKind.i64 (-9223372036854775808 : Int), IV.int IntKind.i64 (9223372036854775807 : Int)]) h)))
                    (brS (o == (11 : Int))
                      (brS (decide (a ≥ (0 : Int)))
                        (brS (decide (c ≥ (0 : Int))) (inR (if d > b then d else b) ∧ Q (IV.agg [IV.int IntKind.i64 (0 : Int), IV.int IntKind.i64 (ones (if d > b then d else b))]) h)
                          (Q (IV.agg [IV.int IntKind.i64 (-9223372036854775808 : Int), IV.int IntKind.i64 (9223372036854775807 : Int)]) h))
                        (Q (IV.agg [IV.int IntKind.i64 (-9223372036854775808 : Int), IV.int IntKind.i64 (9223372036854775807 : Int)]) h))
                      (Q (IV.agg [IV.int IntKind.i64 (-9223372036854775808 : Int), IV.int IntKind.i64 (9223372036854775807 : Int)]) h)))
                  (brS (o == (11 : Int))
                    (brS (decide (a ≥ (0 : Int)))
                      (brS (decide (c ≥ (0 : Int))) (inR (if d > b then d else b) ∧ Q (IV.agg [IV.int IntKind.i64 (0 : Int), IV.int IntKind.i64 (ones (if d > b then d else b))]) h)
                        (Q (IV.agg [IV.int IntKind.i64 (-9223372036854775808 : Int), IV.int IntKind.i64 (9223372036854775807 : Int)]) h))
                      (Q (IV.agg [IV.int IntKind.i64 (-9223372036854775808 : Int), IV.int IntKind.i64 (9223372036854775807 : Int)]) h))
                    (Q (IV.agg [IV.int IntKind.i64 (-9223372036854775808 : Int), IV.int IntKind.i64 (9223372036854775807 : Int)]) h))))
              (brS (o == (10 : Int))
                (brS (decide (a ≥ (0 : Int)))
                  (brS (decide (c ≥ (0 : Int))) (inR (if d > b then d else b) ∧ Q (IV.agg [IV.int IntKind.i64 (if c > a then c else a), IV.int IntKind.i64 (ones (if d > b then d else b))]) h)
                    (brS (o == (11 : Int))
                      (brS (decide (a ≥ (0 : Int)))
                        (brS (decide (c ≥ (0 : Int))) (inR (if d > b then d else b) ∧ Q (IV.agg [IV.int IntKind.i64 (0 : Int), IV.int IntKind.i64 (ones (if d > b then d else b))]) h)
                          (Q (IV.agg [IV.int IntKind.i64 (-9223372036854775808 : Int), IV.int IntKind.i64 (9223372036854775807 : Int)]) h))
                        (Q (IV.agg [IV.int IntKind.i64 (-9223372036854775808 : Int), IV.int IntKind.i64 (9223372036854775807 : Int)]) h))
                      (Q (IV.agg [IV.int IntKind.i64 (-9223372036854775808 : Int), IV.int IntKind.i64 (9223372036854775807 : Int)]) h)))
                  (brS (o == (11 : Int))
                    (brS (decide (a ≥ (0 : Int)))
                      (brS (decide (c ≥ (0 : Int))) (inR (if d > b then d else b) ∧ Q (IV.agg [IV.int IntKind.i64 (0 : Int), IV.int IntKind.i64 (ones (if d > b then d else b))]) h)
                        (Q (IV.agg [IV.int IntKind.i64 (-9223372036854775808 : Int), IV.int IntKind.i64 (9223372036854775807 : Int)]) h))
                      (Q (IV.agg [IV.int IntKind.i64 (-9223372036854775808 : Int), IV.int IntKind.i64 (9223372036854775807 : Int)]) h))
                    (Q (IV.agg [IV.int IntKind.i64 (-9223372036854775808 : Int), IV.int IntKind.i64 (9223372036854775807 : Int)]) h)))
                (brS (o == (11 : Int))
                  (brS (decide (a ≥ (0 : Int)))
                    (brS (decide (c ≥ (0 : Int))) (inR (if d > b then d else b) ∧ Q (IV.agg [IV.int IntKind.i64 (0 : Int), IV.int IntKind.i64 (ones (if d > b then d else b))]) h)
                      (Q (IV.agg [IV.int IntKind.i64 (-9223372036854775808 : Int), IV.int IntKind.i64 (9223372036854775807 : Int)]) h))
                    (Q (IV.agg [IV.int IntKind.i64 (-9223372036854775808 : Int), IV.int IntKind.i64 (9223372036854775807 : Int)]) h))
                  (Q (IV.agg [IV.int IntKind.i64 (-9223372036854775808 : Int), IV.int IntKind.i64 (9223372036854775807 : Int)]) h)))))
          (brS (o == (9 : Int))
            (brS (decide (c ≥ (0 : Int))) (Q (IV.agg [IV.int IntKind.i64 (0 : Int), IV.int IntKind.i64 d]) h)
              (brS (o == (10 : Int))
                (brS (decide (a ≥ (0 : Int)))
                  (brS (decide (c ≥ (0 : Int))) (inR (if d > b then d else b) ∧ Q (IV.agg [IV.int IntKind.i64 (if c > a then c else a), IV.int IntKind.i64 (ones (if d > b then d else b))]) h)
                    (brS (o == (11 : Int))
                      (brS (decide (a ≥ (0 : Int)))
                        (brS (decide (c ≥ (0 : Int))) (inR (if d > b then d else b) ∧ Q (IV.agg [IV.int IntKind.i64 (0 : Int), IV.int IntKind.i64 (ones (if d > b then d else b))]) h)
                          (Q (IV.agg [IV.int IntKind.i64 (-9223372036854775808 : Int), IV.int IntKind.i64 (9223372036854775807 : Int)]) h))
                        (Q (IV.agg [IV.int IntKind.i64 (-9223372036854775808 : Int), IV.int IntKind.i64 (9223372036854775807 : Int)]) h))
                      (Q (IV.agg [IV.int IntKind.i64 (-9223372036854775808 : Int), IV.int IntKind.i64 (9223372036854775807 : Int)]) h)))
                  (brS (o == (11 : Int))
                    (brS (decide (a ≥ (0 : Int)))
                      (brS (decide (c ≥ (0 : Int))) (inR (if d > b then d else b) ∧ Q (IV.agg [IV.int IntKind.i64 (0 : Int), IV.int IntKind.i64 (ones (if d > b then d else b))]) h)
                        (Q (IV.agg [IV.int IntKind.i64 (-9223372036854775808 : Int), IV.int IntKind.i64 (9223372036854775807 : Int)]) h))
                      (Q (IV.agg [IV.int IntKind.i64 (-9223372036854775808 : Int), IV.int IntKind.i64 (9223372036854775807 : Int)]) h))
                    (Q (IV.agg [IV.int IntKind.i64 (-9223372036854775808 : Int), IV.int IntKind.i64 (9223372036854775807 : Int)]) h)))
                (brS (o == (11 : Int))
                  (brS (decide (a ≥ (0 : Int)))
                    (brS (decide (c ≥ (0 : Int))) (inR (if d > b then d else b) ∧ Q (IV.agg [IV.int IntKind.i64 (0 : Int), IV.int IntKind.i64 (ones (if d > b then d else b))]) h)
                      (Q (IV.agg [IV.int IntKind.i64 (-9223372036854775808 : Int), IV.int IntKind.i64 (9223372036854775807 : Int)]) h))
                    (Q (IV.agg [IV.int IntKind.i64 (-9223372036854775808 : Int), IV.int IntKind.i64 (9223372036854775807 : Int)]) h))
                  (Q (IV.agg [IV.int IntKind.i64 (-9223372036854775808 : Int), IV.int IntKind.i64 (9223372036854775807 : Int)]) h))))
            (brS (o == (10 : Int))
              (brS (decide (a ≥ (0 : Int)))
                (brS (decide (c ≥ (0 : Int))) (inR (if d > b then d else b) ∧ Q (IV.agg [IV.int IntKind.i64 (if c > a then c else a), IV.int IntKind.i64 (ones (if d > b then d else b))]) h)
                  (brS (o == (11 : Int))
                    (brS (decide (a ≥ (0 : Int)))
                      (brS (decide (c ≥ (0 : Int))) (inR (if d > b then d else b) ∧ Q (IV.agg [IV.int IntKind.i64 (0 : Int), IV.int IntKind.i64 (ones (if d > b then d else b))]) h)
                        (Q (IV.agg [IV.int IntKind.i64 (-9223372036854775808 : Int), IV.int IntKind.i64 (9223372036854775807 : Int)]) h))
                      (Q (IV.agg [IV.int IntKind.i64 (-9223372036854775808 : Int), IV.int IntKind.i64 (9223372036854775807 : Int)]) h))
                    (Q (IV.agg [IV.int IntKind.i64 (-9223372036854775808 : Int), IV.int IntKind.i64 (9223372036854775807 : Int)]) h)))
                (brS (o == (11 : Int))
                  (brS (decide (a ≥ (0 : Int)))
                    (brS (decide (c ≥ (0 : Int))) (inR (if d > b then d else b) ∧ Q (IV.agg [IV.int IntKind.i64 (0 : Int), IV.int IntKind.i64 (ones (if d > b then d else b))]) h)
                      (Q (IV.agg [IV.int IntKind.i64 (-9223372036854775808 : Int), IV.int IntKind.i64 (9223372036854775807 : Int)]) h))
                    (Q (IV.agg [IV.int IntKind.i64 (-9223372036854775808 : Int), IV.int IntKind.i64 (9223372036854775807 : Int)]) h))
                  (Q (IV.agg [IV.int IntKind.i64 (-9223372036854775808 : Int), IV.int IntKind.i64 (9223372036854775807 : Int)]) h)))
              (brS (o == (11 : Int))
                (brS (decide (a ≥ (0 : Int)))
                  (brS (decide (c ≥ (0 : Int))) (inR (if d > b then d else b) ∧ Q (IV.agg [IV.int IntKind.i64 (0 : Int), IV.int IntKind.i64 (ones (if d > b then d else b))]) h)
                    (Q (IV.agg [IV.int IntKind.i64 (-9223372036854775808 : Int), IV.int IntKind.i64 (9223372036854775807 : Int)]) h))
                  (Q (IV.agg [IV.int IntKind.i64 (-9223372036854775808 : Int), IV.int IntKind.i64 (9223372036854775807 : Int)]) h))
                (Q (IV.agg [IV.int IntKind.i64 (-9223372036854775808 : Int), IV.int IntKind.i64 (9223372036854775807 : Int)]) h))))))
      (brS (o == (9 : Int))
        (brS (decide (a ≥ (0 : Int))) (Q (IV.agg [IV.int IntKind.i64 (0 : Int), IV.int IntKind.i64 b]) h)
          (brS (o == (9 : Int))
            (brS (decide (c ≥ (0 : Int))) (Q (IV.agg [IV.int IntKind.i64 (0 : Int), IV.int IntKind.i64 d]) h)
              (brS (o == (10 : Int))
                (brS (decide (a ≥ (0 : Int)))
                  (brS (decide (c ≥ (0 : Int))) (inR (if d > b then d else b) ∧ Q (IV.agg [IV.int IntKind.i64 (if c > a then c else a), IV.int IntKind.i64 (ones (if d > b then d else b))]) h)
                    (brS (o == (11 : Int))
                      (brS (decide (a ≥ (0 : Int)))
                        (brS (decide (c ≥ (0 : Int))) (inR (if d > b then d else b) ∧ Q (IV.agg [IV.int IntKind.i64 (0 : Int), IV.int IntKind.i64 (ones (if d > b then d else b))]) h)
                          (Q (IV.agg [IV.int IntKind.i64 (-9223372036854775808 : Int), IV.int IntKind.i64 (9223372036854775807 : Int)]) h))
                        (Q (IV.agg [IV.int IntKind.i64 (-9223372036854775808 : Int), IV.int IntKind.i64 (9223372036854775807 : Int)]) h))
                      (Q (IV.agg [IV.int IntKind.i64 (-9223372036854775808 : Int), IV.int IntKind.i64 (9223372036854775807 : Int)]) h)))
                  (brS (o == (11 : Int))
                    (brS (decide (a ≥ (0 : Int)))
                      (brS (decide (c ≥ (0 : Int))) (inR (if d > b then d else b) ∧ Q (IV.agg [IV.int IntKind.i64 (0 : Int), IV.int IntKind.i64 (ones (if d > b then d else b))]) h)
                        (Q (IV.agg [IV.int IntKind.i64 (-9223372036854775808 : Int), IV.int IntKind.i64 (9223372036854775807 : Int)]) h))
                      (Q (IV.agg [IV.int IntKind.i64 (-9223372036854775808 : Int), IV.int IntKind.i64 (9223372036854775807 : Int)]) h))
                    (Q (IV.agg [IV.int IntKind.i64 (-9223372036854775808 : Int), IV.int IntKind.i64 (9223372036854775807 : Int)]) h)))
                (brS (o == (11 : Int))
                  (brS (decide (a ≥ (0 : Int)))
                    (brS (decide (c ≥ (0 : Int))) (inR (if d > b then d else b) ∧ Q (IV.agg [IV.int IntKind.i64 (0 : Int), IV.int IntKind.i64 (ones (if d > b then d else b))]) h)
                      (Q (IV.agg [IV.int IntKind.i64 (-9223372036854775808 : Int), IV.int IntKind.i64 (9223372036854775807 : Int)]) h))
                    (Q (IV.agg [IV.int IntKind.i64 (-9223372036854775808 : Int), IV.int IntKind.i64 (9223372036854775807 : Int)]) h))
                  (Q (IV.agg [IV.int IntKind.i64 (-9223372036854775808 : Int), IV.int IntKind.i64 (9223372036854775807 : Int)]) h))))
            (brS (o == (10 : Int))
              (brS (decide (a ≥ (0 : Int)))
                (brS (decide (c ≥ (0 : Int))) (inR (if d > b then d else b) ∧ Q (IV.agg [IV.int IntKind.i64 (if c > a then c else a), IV.int IntKind.i64 (ones (if d > b then d else b))]) h)
                  (brS (o == (11 : Int))
                    (brS (decide (a ≥ (0 : Int)))
                      (brS (decide (c ≥ (0 : Int))) (inR (if d > b then d else b) ∧ Q (IV.agg [IV.int IntKind.i64 (0 : Int), IV.int IntKind.i64 (ones (if d > b then d else b))]) h)
                        (Q (IV.agg [IV.int IntKind.i64 (-9223372036854775808 : Int), IV.int IntKind.i64 (9223372036854775807 : Int)]) h))
                      (Q (IV.agg [IV.int IntKind.i64 (-9223372036854775808 : Int), IV.int IntKind.i64 (9223372036854775807 : Int)]) h))
                    (Q (IV.agg [IV.int IntKind.i64 (-9223372036854775808 : Int), IV.int IntKind.i64 (9223372036854775807 : Int)]) h)))
                (brS (o == (11 : Int))
                  (brS (decide (a ≥ (0 : Int)))
                    (brS (decide (c ≥ (0 : Int))) (inR (if d > b then d else b) ∧ Q (IV.agg [IV.int IntKind.i64 (0 : Int), IV.int IntKind.i64 (ones (if d > b then d else b))]) h)
                      (Q (IV.agg [IV.int IntKind.i64 (-9223372036854775808 : Int), IV.int IntKind.i64 (9223372036854775807 : Int)]) h))
                    (Q (IV.agg [IV.int IntKind.i64 (-9223372036854775808 : Int), IV.int IntKind.i64 (9223372036854775807 : Int)]) h))
                  (Q (IV.agg [IV.int IntKind.i64 (-9223372036854775808 : Int), IV.int IntKind.i64 (9223372036854775807 : Int)]) h)))
              (brS (o == (11 : Int))
                (brS (decide (a ≥ (0 : Int)))
                  (brS (decide (c ≥ (0 : Int))) (inR (if d > b then d else b) ∧ Q (IV.agg [IV.int IntKind.i64 (0 : Int), IV.int IntKind.i64 (ones (if d > b then d else b))]) h)
                    (Q (IV.agg [IV.int IntKind.i64 (-9223372036854775808 : Int), IV.int IntKind.i64 (9223372036854775807 : Int)]) h))
                  (Q (IV.agg [IV.int IntKind.i64 (-9223372036854775808 : Int), IV.int IntKind.i64 (9223372036854775807 : Int)]) h))
                (Q (IV.agg [IV.int IntKind.i64 (-9223372036854775808 : Int), IV.int IntKind.i64 (9223372036854775807 : Int)]) h)))))
        (brS (o == (9 : Int))
          (brS (decide (c ≥ (0 : Int))) (Q (IV.agg [IV.int IntKind.i64 (0 : Int), IV.int IntKind.i64 d]) h)
            (brS (o == (10 : Int))
              (brS (decide (a ≥ (0 : Int)))
                (brS (decide (c ≥ (0 : Int))) (inR (if d > b then d else b) ∧ Q (IV.agg [IV.int IntKind.i64 (if c > a then c else a), IV.int IntKind.i64 (ones (if d > b then d else b))]) h)
                  (brS (o == (11 : Int))
                    (brS (decide (a ≥ (0 : Int)))
                      (brS (decide (c ≥ (0 : Int))) (inR (if d > b then d else b) ∧ Q (IV.agg [IV.int IntKind.i64 (0 : Int), IV.int IntKind.i64 (ones (if d > b then d else b))]) h)
                        (Q (IV.agg [IV.int IntKind.i64 (-9223372036854775808 : Int), IV.int IntKind.i64 (9223372036854775807 : Int)]) h))
                      (Q (IV.agg [IV.int IntKind.i64 (-9223372036854775808 : Int), IV.int IntKind.i64 (9223372036854775807 : Int)]) h))
                    (Q (IV.agg [IV.int IntKind.i64 (-9223372036854775808 : Int), IV.int IntKind.i64 (9223372036854775807 : Int)]) h)))
                (brS (o == (11 : Int))
                  (brS (decide (a ≥ (0 : Int)))
                    (brS (decide (c ≥ (0 : Int))) (inR (if d > b then d else b) ∧ Q (IV.agg [IV.int IntKind.i64 (0 : Int), IV.int IntKind.i64 (ones (if d > b then d else b))]) h)
                      (Q (IV.agg [IV.int IntKind.i64 (-9223372036854775808 : Int), IV.int IntKind.i64 (9223372036854775807 : Int)]) h))
                    (Q (IV.agg [IV.int IntKind.i64 (-9223372036854775808 : Int), IV.int IntKind.i64 (9223372036854775807 : Int)]) h))
                  (Q (IV.agg [IV.int IntKind.i64 (-9223372036854775808 : Int), IV.int IntKind.i64 (9223372036854775807 : Int)]) h)))
              (brS (o == (11 : Int))
                (brS (decide (a ≥ (0 : Int)))
                  (brS (decide (c ≥ (0 : Int))) (inR (if d > b then d else b) ∧ Q (IV.agg [IV.int IntKind.i64 (0 : Int), IV.int IntKind.i64 (ones (if d > b then d else b))]) h)
                    (Q (IV.agg [IV.int IntKind.i64 (-9223372036854775808 : Int), IV.int IntKind.i64 (9223372036854775807 : Int)]) h))
                  (Q (IV.agg [IV.int IntKind.i64 (-9223372036854775808 : Int), IV.int IntKind.i64 (9223372036854775807 : Int)]) h))
                (Q (IV.agg [IV.int IntKind.i64 (-9223372036854775808 : Int), IV.int IntKind.i64 (9223372036854775807 : Int)]) h))))
          (brS (o == (10 : Int))
            (brS (decide (a ≥ (0 : Int)))
              (brS (decide (c ≥ (0 : Int))) (inR (if d > b then d else b) ∧ Q (IV.agg [IV.int IntKind.i64 (if c > a then c else a), IV.int IntKind.i64 (ones (if d > b then d else b))]) h)
                (brS (o == (11 : Int))
                  (brS (decide (a ≥ (0 : Int)))
                    (brS (decide (c ≥ (0 : Int))) (inR (if d > b then d else b) ∧ Q (IV.agg [IV.int IntKind.i64 (0 : Int), IV.int IntKind.i64 (ones (if d > b then d else b))]) h)
                      (Q (IV.agg [IV.int IntKind.i64 (-9223372036854775808 : Int), IV.int IntKind.i64 (9223372036854775807 : Int)]) h))
                    (Q (IV.agg [IV.int IntKind.i64 (-9223372036854775808 : Int), IV.int IntKind.i64 (9223372036854775807 : Int)]) h))
                  (Q (IV.agg [IV.int IntKind.i64 (-9223372036854775808 : Int), IV.int IntKind.i64 (9223372036854775807 : Int)]) h)))
              (brS (o == (11 : Int))
                (brS (decide (a ≥ (0 : Int)))
                  (brS (decide (c ≥ (0 : Int))) (inR (if d > b then d else b) ∧ Q (IV.agg [IV.int IntKind.i64 (0 : Int), IV.int IntKind.i64 (ones (if d > b then d else b))]) h)
                    (Q (IV.agg [IV.int IntKind.i64 (-9223372036854775808 : Int), IV.int IntKind.i64 (9223372036854775807 : Int)]) h))
                  (Q (IV.agg [IV.int IntKind.i64 (-9223372036854775808 : Int), IV.int IntKind.i64 (9223372036854775807 : Int)]) h))
                (Q (IV.agg [IV.int IntKind.i64 (-9223372036854775808 : Int), IV.int IntKind.i64 (9223372036854775807 : Int)]) h)))
            (brS (o == (11 : Int))
              (brS (decide (a ≥ (0 : Int)))
                (brS (decide (c ≥ (0 : Int))) (inR (if d > b then d else b) ∧ Q (IV.agg [IV.int IntKind.i64 (0 : Int), IV.int IntKind.i64 (ones (if d > b then d else b))]) h)
                  (Q (IV.agg [IV.int IntKind.i64 (-9223372036854775808 : Int), IV.int IntKind.i64 (9223372036854775807 : Int)]) h))
                (Q (IV.agg [IV.int IntKind.i64 (-9223372036854775808 : Int), IV.int IntKind.i64 (9223372036854775807 : Int)]) h))
              (Q (IV.agg [IV.int IntKind.i64 (-9223372036854775808 : Int), IV.int IntKind.i64 (9223372036854775807 : Int)]) h))))))
    (brS (o == (9 : Int))
      (brS (decide (a ≥ (0 : Int))) (Q (IV.agg [IV.int IntKind.i64 (0 : Int), IV.int IntKind.i64 b]) h)
        (brS (o == (9 : Int))
          (brS (decide (c ≥ (0 : Int))) (Q (IV.agg [IV.int IntKind.i64 (0 : Int), IV.int IntKind.i64 d]) h)
            (brS (o == (10 : Int))
              (brS (decide (a ≥ (0 : Int)))
                (brS (decide (c ≥ (0 : Int))) (inR (if d > b then d else b) ∧ Q (IV.agg [IV.int IntKind.i64 (if c > a then c else a), IV.int IntKind.i64 (ones (if d > b then d else b))]) h)
                  (brS (o == (11 : Int))
                    (brS (decide (a ≥ (0 : Int)))
                      (brS (decide (c ≥ (0 : Int))) (inR (if d > b then d else b) ∧ Q (IV.agg [IV.int IntKind.i64 (0 : Int), IV.int IntKind.i64 (ones (if d > b then d else b))]) h)
                        (Q (IV.agg [IV.int IntKind.i64 (-9223372036854775808 : Int), IV.int IntKind.i64 (9223372036854775807 : Int)]) h))
                      (Q (IV.agg [IV.int IntKind.i64 (-9223372036854775808 : Int), IV.int IntKind.i64 (9223372036854775807 : Int)]) h))
                    (Q (IV.agg [IV.int IntKind.i64 (-9223372036854775808 : Int), IV.int IntKind.i64 (9223372036854775807 : Int)]) h)))
                (brS (o == (11 : Int))
                  (brS (decide (a ≥ (0 : Int)))
                    (brS (decide (c ≥ (0 : Int))) (inR (if d > b then d else b) ∧ Q (IV.agg [IV.int IntKind.i64 (0 : Int), IV.int IntKind.i64 (ones (if d > b then d else b))]) h)
                      (Q (IV.agg [IV.int IntKind.i64 (-9223372036854775808 : Int), IV.int IntKind.i64 (9223372036854775807 : Int)]) h))
                    (Q (IV.agg [IV.int IntKind.i64 (-9223372036854775808 : Int), IV.int IntKind.i64 (9223372036854775807 : Int)]) h))
                  (Q (IV.agg [IV.int IntKind.i64 (-9223372036854775808 : Int), IV.int IntKind.i64 (9223372036854775807 : Int)]) h)))
              (brS (o == (11 : Int))
                (brS (decide (a ≥ (0 : Int)))
                  (brS (decide (c ≥ (0 : Int))) (inR (if d > b then d else b) ∧ Q (IV.agg [IV.int IntKind.i64 (0 : Int), IV.int IntKind.i64 (ones (if d > b then d else b))]) h)
                    (Q (IV.agg [IV.int IntKind.i64 (-9223372036854775808 : Int), IV.int IntKind.i64 (9223372036854775807 : Int)]) h))
                  (Q (IV.agg [IV.int IntKind.i64 (-9223372036854775808 : Int), IV.int IntKind.i64 (9223372036854775807 : Int)]) h))
                (Q (IV.agg [IV.int IntKind.i64 (-9223372036854775808 : Int), IV.int IntKind.i64 (9223372036854775807 : Int)]) h))))
          (brS (o == (10 : Int))
            (brS (decide (a ≥ (0 : Int)))
              (brS (decide (c ≥ (0 : Int))) (inR (if d > b then d else b) ∧ Q (IV.agg [IV.int IntKind.i64 (if c > a then c else a), IV.int IntKind.i64 (ones (if d > b then d else b))]) h)
                (brS (o == (11 : Int))
                  (brS (decide (a ≥ (0 : Int)))
                    (brS (decide (c ≥ (0 : Int))) (inR (if d > b then d else b) ∧ Q (IV.agg [IV.int IntKind.i64 (0 : Int), IV.int IntKind.i64 (ones (if d > b then d else b))]) h)
                      (Q (IV.agg [IV.int IntKind.i64 (-9223372036854775808 : Int), IV.int IntKind.i64 (9223372036854775807 : Int)]) h))
                    (Q (IV.agg [IV.int IntKind.i64 (-9223372036854775808 : Int), IV.int IntKind.i64 (9223372036854775807 : Int)]) h))
                  (Q (IV.agg [IV.int IntKind.i64 (-9223372036854775808 : Int), IV.int IntKind.i64 (9223372036854775807 : Int)]) h)))
              (brS (o == (11 : Int))
                (brS (decide (a ≥ (0 : Int)))
                  (brS (decide (c ≥ (0 : Int))) (inR (if d > b then d else b) ∧ Q (IV.agg [IV.int IntKind.i64 (0 : Int), IV.int IntKind.i64 (ones (if d > b then d else b))]) h)
                    (Q (IV.agg [IV.int IntKind.i64 (-9223372036854775808 : Int), IV.int IntKind.i64 (9223372036854775807 : Int)]) h))
                  (Q (IV.agg [IV.int IntKind.i64 (-9223372036854775808 : Int), IV.int IntKind.i64 (9223372036854775807 : Int)]) h))
                (Q (IV.agg [IV.int IntKind.i64 (-9223372036854775808 : Int), IV.int IntKind.i64 (9223372036854775807 : Int)]) h)))
            (brS (o == (11 : Int))
              (brS (decide (a ≥ (0 : Int)))
                (brS (decide (c ≥ (0 : Int))) (inR (if d > b then d else b) ∧ Q (IV.agg [IV.int IntKind.i64 (0 : Int), IV.int IntKind.i64 (ones (if d > b then d else b))]) h)
                  (Q (IV.agg [IV.int IntKind.i64 (-9223372036854775808 : Int), IV.int IntKind.i64 (9223372036854775807 : Int)]) h))
                (Q (IV.agg [IV.int IntKind.i64 (-9223372036854775808 : Int), IV.int IntKind.i64 (9223372036854775807 : Int)]) h))
              (Q (IV.agg [IV.int IntKind.i64 (-9223372036854775808 : Int), IV.int IntKind.i64 (9223372036854775807 : Int)]) h)))))
      (brS (o == (9 : Int))
        (brS (decide (c ≥ (0 : Int))) (Q (IV.agg [IV.int IntKind.i64 (0 : Int), IV.int IntKind.i64 d]) h)
          (brS (o == (10 : Int))
            (brS (decide (a ≥ (0 : Int)))
              (brS (decide (c ≥ (0 : Int))) (inR (if d > b then d else b) ∧ Q (IV.agg [IV.int IntKind.i64 (if c > a then c else a), IV.int IntKind.i64 (ones (if d > b then d else b))]) h)
                (brS (o == (11 : Int))
                  (brS (decide (a ≥ (0 : Int)))
                    (brS (decide (c ≥ (0 : Int))) (inR (if d > b then d else b) ∧ Q (IV.agg [IV.int IntKind.i64 (0 : Int), IV.int IntKind.i64 (ones (if d > b then d else b))]) h)
                      (Q (IV.agg [IV.int IntKind.i64 (-9223372036854775808 : Int), IV.int IntKind.i64 (9223372036854775807 : Int)]) h))
                    (Q (IV.agg [IV.int IntKind.i64 (-9223372036854775808 : Int), IV.int IntKind.i64 (9223372036854775807 : Int)]) h))
                  (Q (IV.agg [IV.int IntKind.i64 (-9223372036854775808 : Int), IV.int IntKind.i64 (9223372036854775807 : Int)]) h)))
              (brS (o == (11 : Int))
                (brS (decide (a ≥ (0 : Int)))
                  (brS (decide (c ≥ (0 : Int))) (inR (if d > b then d else b) ∧ Q (IV.agg [IV.int IntKind.i64 (0 : Int), IV.int IntKind.i64 (ones (if d > b then d else b))]) h)
                    (Q (IV.agg [IV.int IntKind.i64 (-9223372036854775808 : Int), IV.int IntKind.i64 (9223372036854775807 : Int)]) h))
                  (Q (IV.agg [IV.int IntKind.i64 (-9223372036854775808 : Int), IV.int IntKind.i64 (9223372036854775807 : Int)]) h))
                (Q (IV.agg [IV.int IntKind.i64 (-9223372036854775808 : Int), IV.int IntKind.i64 (9223372036854775807 : Int)]) h)))
            (brS (o == (11 : Int))
              (brS (decide (a ≥ (0 : Int)))
                (brS (decide (c ≥ (0 : Int))) (inR (if d > b then d else b) ∧ Q (IV.agg [IV.int IntKind.i64 (0 : Int), IV.int IntKind.i64 (ones (if d > b then d else b))]) h)
                  (Q (IV.agg [IV.int IntKind.i64 (-9223372036854775808 : Int), IV.int IntKind.i64 (9223372036854775807 : Int)]) h))
                (Q (IV.agg [IV.int IntKind.i64 (-9223372036854775808 : Int), IV.int IntKind.i64 (9223372036854775807 : Int)]) h))
              (Q (IV.agg [IV.int IntKind.i64 (-9223372036854775808 : Int), IV.int IntKind.i64 (9223372036854775807 : Int)]) h))))
        (brS (o == (10 : Int))
          (brS (decide (a ≥ (0 : Int)))
            (brS (decide (c ≥ (0 : Int))) (inR (if d > b then d else b) ∧ Q (IV.agg [IV.int IntKind.i64 (if c > a then c else a), IV.int IntKind.i64 (ones (if d > b then d else b))]) h)
              (brS (o == (11 : Int))
                (brS (decide (a ≥ (0 : Int)))
                  (brS (decide (c ≥ (0 : Int))) (inR (if d > b then d else b) ∧ Q (IV.agg [IV.int IntKind.i64 (0 : Int), IV.int IntKind.i64 (ones (if d > b then d else b))]) h)
                    (Q (IV.agg [IV.int IntKind.i64 (-9223372036854775808 : Int), IV.int IntKind.i64 (9223372036854775807 : Int)]) h))
                  (Q (IV.agg [IV.int IntKind.i64 (-9223372036854775808 : Int), IV.int IntKind.i64 (9223372036854775807 : Int)]) h))
                (Q (IV.agg [IV.int IntKind.i64 (-9223372036854775808 : Int), IV.int IntKind.i64 (9223372036854775807 : Int)]) h)))
            (brS (o == (11 : Int))
              (brS (decide (a ≥ (0 : Int)))
                (brS (decide (c ≥ (0 : Int))) (inR (if d > b then d else b) ∧ Q (IV.agg [IV.int IntKind.i64 (0 : Int), IV.int IntKind.i64 (ones (if d > b then d else b))]) h)
                  (Q (IV.agg [IV.int IntKind.i64 (-9223372036854775808 : Int), IV.int IntKind.i64 (9223372036854775807 : Int)]) h))
                (Q (IV.agg [IV.int IntKind.i64 (-9223372036854775808 : Int), IV.int IntKind.i64 (9223372036854775807 : Int)]) h))
              (Q (IV.agg [IV.int IntKind.i64 (-9223372036854775808 : Int), IV.int IntKind.i64 (9223372036854775807 : Int)]) h)))
          (brS (o == (11 : Int))
            (brS (decide (a ≥ (0 : Int)))
              (brS (decide (c ≥ (0 : Int))) (inR (if d > b then d else b) ∧ Q (IV.agg [IV.int IntKind.i64 (0 : Int), IV.int IntKind.i64 (ones (if d > b then d else b))]) h)
                (Q (IV.agg [IV.int IntKind.i64 (-9223372036854775808 : Int), IV.int IntKind.i64 (9223372036854775807 : Int)]) h))
              (Q (IV.agg [IV.int IntKind.i64 (-9223372036854775808 : Int), IV.int IntKind.i64 (9223372036854775807 : Int)]) h))
            (Q (IV.agg [IV.int IntKind.i64 (-9223372036854775808 : Int), IV.int IntKind.i64 (9223372036854775807 : Int)]) h)))))) := by kernel_rfl
set_option maxHeartbeats 2000000 in
theorem sRBitwise : ∀ xs h Q, kRBitwise xs h Q → CallW env 56 xs h Q := by
  intro xs h Q hk
  unfold kRBitwise at hk
  split at hk
  · rename_i o a b c d
    refine dF_sound (okRCorners) (mp_eq (vRBitwise o a b c d h Q) ?_)
    obtain ⟨⟨ho, ⟨⟨ha, hb⟩, hc, hd⟩, hab, hcd⟩, hk⟩ := hk
    have m1 : ∀ x y : Int, (if y < x then y else x) = min x y := fun x y => by omega
    have m2 : ∀ x y : Int, (if y > x then y else x) = max x y := fun x y => by omega
    simp only [m1, m2]
    have hm : inR (max b d) := by unfold inR at *; omega
    unfold ibit' at hk
    rcases ho with rfl | rfl | rfl <;> by_cases hs1 : 0 ≤ a <;> by_cases hs2 : 0 ≤ c
    all_goals repeat' (first | refine needS_intro ?_ ?_ | refine brS_intro (fun _ => ?_) (fun _ => ?_) | refine And.intro ?_ ?_)
    all_goals try simp only [decide_eq_true_eq, decide_eq_false_iff_not] at *
    all_goals first | exact hm | exact hm.1 | exact hm.2 | omega | (exfalso; contradiction) | skip
    all_goals refine q_eq hk ?_
    all_goals first | (rw [if_pos (by decide), if_pos (by omega)]; done) | (rw [if_pos (by decide), if_neg (by omega), if_pos (by omega)]; done) | (rw [if_pos (by decide), if_neg (by omega), if_neg (by omega), if_pos (by omega)]; done) | (rw [if_pos (by decide), if_neg (by omega), if_neg (by omega), if_neg (by omega)]; done)  | (rw [if_neg (by decide), if_pos (by omega)]; done) | (rw [if_neg (by decide), if_neg (by omega)]; rfl)
  · exact hk.elim
def cRBitwise := addC 56 kRBitwise cRCorners
theorem okRBitwise : Sound env cRBitwise := sound_add sRBitwise (okRCorners)

end Go.Proofs.Ytahafnjlmcmhfaa
