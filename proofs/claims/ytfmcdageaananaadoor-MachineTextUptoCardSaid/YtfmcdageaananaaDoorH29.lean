/-
  The target machine: the reference's texts of instructions.
  Conditions: none.
-/
import Derived.Test.YtfmcdageaananaaDoorK29
import Derived.KernelRfl
set_option linter.unusedVariables false
set_option linter.unusedSimpArgs false
namespace Go.Proofs.YtfmcdageaananaaDoor
open Go.Pv Go.M29
theorem brS_true {b : Bool} {A B : Prop} (h : b = true) (a : A) : brS b A B := by rw [h]; exact a
theorem brS_false {b : Bool} {A B : Prop} (h : b = false) (a : B) : brS b A B := by rw [h]; exact a
def kRFormat (xs : List IV) (h : Heap) (K : IV → Heap → Prop) : Prop := match xs with
  | [.agg [.int .i64 op, .int .i64 a, .int .i64 b, .int .i64 c, .int .i64 n]] => K (.str (fmtS ⟨op, a, b, c, n⟩)) h
  | _ => False
set_option maxRecDepth 100000 in
theorem vRFormat (op a b c n : Int) (h : Heap) (Q : IV → Heap → Prop) : dF (stdS cRTripL) env 20 (fun k => match Nat.beq k 19 with | true => 6 | false => 0) noI noI [.agg [.int .i64 op, .int .i64 a, .int .i64 b, .int .i64 c, .int .i64 n]] h Q = (
  brS (!validI op a b c n) (Q (IV.str []) h)
 (brS (op == (6 : Int))
 (((-9223372036854775808 : Int) ≤ a ∧ a ≤ (9223372036854775807 : Int)) ∧
 brS (Row.fm (rowOf op) == (3 : Int))
 (((-9223372036854775808 : Int) ≤ b ∧ b ≤ (9223372036854775807 : Int)) ∧
 needS (Nat.ble ((1 : Nat) + List.length (txt b)) (9223372036854775807 : Nat))
 (brS (Row.fm (rowOf op) == (4 : Int))
 (((-9223372036854775808 : Int) ≤ c ∧ c ≤ (9223372036854775807 : Int)) ∧
 needS (Nat.ble ((1 : Nat) + List.length (txt c)) (9223372036854775807 : Nat))
 (brS (Row.fm (rowOf op) == (8 : Int))
 (((-9223372036854775808 : Int) ≤ n ∧ n ≤ (9223372036854775807 : Int)) ∧
 needS (Nat.ble ((1 : Nat) + List.length (txt a)) (9223372036854775807 : Nat))
 (needS (Nat.ble (List.length (Row.nm (rowOf op)) + List.length ((32 : UInt8) :: txt a)) (9223372036854775807 : Nat))
 (needS (Nat.ble ((2 : Nat) + List.length ((114 : UInt8) :: txt b)) (9223372036854775807 : Nat))
 (needS (Nat.ble (List.length (Row.nm (rowOf op) ++ (32 : UInt8) :: txt a) + List.length ((44 : UInt8) :: (32 : UInt8) :: (114 : UInt8) :: txt b)) (9223372036854775807 : Nat))
 (needS (Nat.ble ((2 : Nat) + List.length ((114 : UInt8) :: txt c)) (9223372036854775807 : Nat))
 (needS
 (Nat.ble (List.length (Row.nm (rowOf op) ++ (32 : UInt8) :: txt a ++ (44 : UInt8) :: (32 : UInt8) :: (114 : UInt8) :: txt b) + List.length ((44 : UInt8) :: (32 : UInt8) :: (114 : UInt8) :: txt c))
 (9223372036854775807 : Nat))
 (needS (Nat.ble ((2 : Nat) + List.length (txt n)) (9223372036854775807 : Nat))
 (needS
 (Nat.ble
 (List.length (Row.nm (rowOf op) ++ (32 : UInt8) :: txt a ++ (44 : UInt8) :: (32 : UInt8) :: (114 : UInt8) :: txt b ++ (44 : UInt8) :: (32 : UInt8) :: (114 : UInt8) :: txt c) +
 List.length ((44 : UInt8) :: (32 : UInt8) :: txt n))
 (9223372036854775807 : Nat))
 (Q
 (IV.str
 (Row.nm (rowOf op) ++ (32 : UInt8) :: txt a ++ (44 : UInt8) :: (32 : UInt8) :: (114 : UInt8) :: txt b ++ (44 : UInt8) :: (32 : UInt8) :: (114 : UInt8) :: txt c ++
 (44 : UInt8) :: (32 : UInt8) :: txt n))
 h)))))))))
 (brS (Row.fm (rowOf op) == (5 : Int))
 (((-9223372036854775808 : Int) ≤ n ∧ n ≤ (9223372036854775807 : Int)) ∧
 needS (Nat.ble ((1 : Nat) + List.length (txt a)) (9223372036854775807 : Nat))
 (needS (Nat.ble (List.length (Row.nm (rowOf op)) + List.length ((32 : UInt8) :: txt a)) (9223372036854775807 : Nat))
 (needS (Nat.ble ((2 : Nat) + List.length ((114 : UInt8) :: txt b)) (9223372036854775807 : Nat))
 (needS (Nat.ble (List.length (Row.nm (rowOf op) ++ (32 : UInt8) :: txt a) + List.length ((44 : UInt8) :: (32 : UInt8) :: (114 : UInt8) :: txt b)) (9223372036854775807 : Nat))
 (needS (Nat.ble ((2 : Nat) + List.length ((114 : UInt8) :: txt c)) (9223372036854775807 : Nat))
 (needS
 (Nat.ble (List.length (Row.nm (rowOf op) ++ (32 : UInt8) :: txt a ++ (44 : UInt8) :: (32 : UInt8) :: (114 : UInt8) :: txt b) + List.length ((44 : UInt8) :: (32 : UInt8) :: (114 : UInt8) :: txt c))
 (9223372036854775807 : Nat))
 (needS (Nat.ble ((2 : Nat) + List.length (txt n)) (9223372036854775807 : Nat))
 (needS
 (Nat.ble
 (List.length (Row.nm (rowOf op) ++ (32 : UInt8) :: txt a ++ (44 : UInt8) :: (32 : UInt8) :: (114 : UInt8) :: txt b ++ (44 : UInt8) :: (32 : UInt8) :: (114 : UInt8) :: txt c) +
 List.length ((44 : UInt8) :: (32 : UInt8) :: txt n))
 (9223372036854775807 : Nat))
 (Q
 (IV.str
 (Row.nm (rowOf op) ++ (32 : UInt8) :: txt a ++ (44 : UInt8) :: (32 : UInt8) :: (114 : UInt8) :: txt b ++ (44 : UInt8) :: (32 : UInt8) :: (114 : UInt8) :: txt c ++
 (44 : UInt8) :: (32 : UInt8) :: txt n))
 h)))))))))
 (brS (Row.fm (rowOf op) == (6 : Int))
 (((-9223372036854775808 : Int) ≤ n ∧ n ≤ (9223372036854775807 : Int)) ∧
 needS (Nat.ble ((1 : Nat) + List.length (txt a)) (9223372036854775807 : Nat))
 (needS (Nat.ble (List.length (Row.nm (rowOf op)) + List.length ((32 : UInt8) :: txt a)) (9223372036854775807 : Nat))
 (needS (Nat.ble ((2 : Nat) + List.length ((114 : UInt8) :: txt b)) (9223372036854775807 : Nat))
 (needS (Nat.ble (List.length (Row.nm (rowOf op) ++ (32 : UInt8) :: txt a) + List.length ((44 : UInt8) :: (32 : UInt8) :: (114 : UInt8) :: txt b)) (9223372036854775807 : Nat))
 (needS (Nat.ble ((2 : Nat) + List.length ((114 : UInt8) :: txt c)) (9223372036854775807 : Nat))
 (needS
 (Nat.ble (List.length (Row.nm (rowOf op) ++ (32 : UInt8) :: txt a ++ (44 : UInt8) :: (32 : UInt8) :: (114 : UInt8) :: txt b) + List.length ((44 : UInt8) :: (32 : UInt8) :: (114 : UInt8) :: txt c))
 (9223372036854775807 : Nat))
 (needS (Nat.ble ((2 : Nat) + List.length (txt n)) (9223372036854775807 : Nat))
 (needS
 (Nat.ble
 (List.length (Row.nm (rowOf op) ++ (32 : UInt8) :: txt a ++ (44 : UInt8) :: (32 : UInt8) :: (114 : UInt8) :: txt b ++ (44 : UInt8) :: (32 : UInt8) :: (114 : UInt8) :: txt c) +
 List.length ((44 : UInt8) :: (32 : UInt8) :: txt n))
 (9223372036854775807 : Nat))
 (Q
 (IV.str
 (Row.nm (rowOf op) ++ (32 : UInt8) :: txt a ++ (44 : UInt8) :: (32 : UInt8) :: (114 : UInt8) :: txt b ++ (44 : UInt8) :: (32 : UInt8) :: (114 : UInt8) :: txt c ++
 (44 : UInt8) :: (32 : UInt8) :: txt n))
 h)))))))))
 (brS (Row.fm (rowOf op) == (7 : Int))
 (((-9223372036854775808 : Int) ≤ n ∧ n ≤ (9223372036854775807 : Int)) ∧
 needS (Nat.ble ((1 : Nat) + List.length (txt a)) (9223372036854775807 : Nat))
 (needS (Nat.ble (List.length (Row.nm (rowOf op)) + List.length ((32 : UInt8) :: txt a)) (9223372036854775807 : Nat))
 (needS (Nat.ble ((2 : Nat) + List.length ((114 : UInt8) :: txt b)) (9223372036854775807 : Nat))
 (needS (Nat.ble (List.length (Row.nm (rowOf op) ++ (32 : UInt8) :: txt a) + List.length ((44 : UInt8) :: (32 : UInt8) :: (114 : UInt8) :: txt b)) (9223372036854775807 : Nat))
 (needS (Nat.ble ((2 : Nat) + List.length ((114 : UInt8) :: txt c)) (9223372036854775807 : Nat))
 (needS
 (Nat.ble (List.length (Row.nm (rowOf op) ++ (32 : UInt8) :: txt a ++ (44 : UInt8) :: (32 : UInt8) :: (114 : UInt8) :: txt b) + List.length ((44 : UInt8) :: (32 : UInt8) :: (114 : UInt8) :: txt c))
 (9223372036854775807 : Nat))
 (needS (Nat.ble ((2 : Nat) + List.length (txt n)) (9223372036854775807 : Nat))
 (needS
 (Nat.ble
 (List.length (Row.nm (rowOf op) ++ (32 : UInt8) :: txt a ++ (44 : UInt8) :: (32 : UInt8) :: (114 : UInt8) :: txt b ++ (44 : UInt8) :: (32 : UInt8) :: (114 : UInt8) :: txt c) +
 List.length ((44 : UInt8) :: (32 : UInt8) :: txt n))
 (9223372036854775807 : Nat))
 (Q
 (IV.str
 (Row.nm (rowOf op) ++ (32 : UInt8) :: txt a ++ (44 : UInt8) :: (32 : UInt8) :: (114 : UInt8) :: txt b ++ (44 : UInt8) :: (32 : UInt8) :: (114 : UInt8) :: txt c ++
 (44 : UInt8) :: (32 : UInt8) :: txt n))
 h)))))))))
 (needS (Nat.ble ((1 : Nat) + List.length (txt a)) (9223372036854775807 : Nat))
 (needS (Nat.ble (List.length (Row.nm (rowOf op)) + List.length ((32 : UInt8) :: txt a)) (9223372036854775807 : Nat))
 (needS (Nat.ble ((2 : Nat) + List.length ((114 : UInt8) :: txt b)) (9223372036854775807 : Nat))
 (needS (Nat.ble (List.length (Row.nm (rowOf op) ++ (32 : UInt8) :: txt a) + List.length ((44 : UInt8) :: (32 : UInt8) :: (114 : UInt8) :: txt b)) (9223372036854775807 : Nat))
 (needS (Nat.ble ((2 : Nat) + List.length ((114 : UInt8) :: txt c)) (9223372036854775807 : Nat))
 (needS
 (Nat.ble (List.length (Row.nm (rowOf op) ++ (32 : UInt8) :: txt a ++ (44 : UInt8) :: (32 : UInt8) :: (114 : UInt8) :: txt b) + List.length ((44 : UInt8) :: (32 : UInt8) :: (114 : UInt8) :: txt c))
 (9223372036854775807 : Nat))
 (Q (IV.str (Row.nm (rowOf op) ++ (32 : UInt8) :: txt a ++ (44 : UInt8) :: (32 : UInt8) :: (114 : UInt8) :: txt b ++ (44 : UInt8) :: (32 : UInt8) :: (114 : UInt8) :: txt c)) h))))))))))))
 (brS (Row.fm (rowOf op) == (8 : Int))
 (((-9223372036854775808 : Int) ≤ n ∧ n ≤ (9223372036854775807 : Int)) ∧
 needS (Nat.ble ((1 : Nat) + List.length (txt a)) (9223372036854775807 : Nat))
 (needS (Nat.ble (List.length (Row.nm (rowOf op)) + List.length ((32 : UInt8) :: txt a)) (9223372036854775807 : Nat))
 (needS (Nat.ble ((2 : Nat) + List.length ((114 : UInt8) :: txt b)) (9223372036854775807 : Nat))
 (needS (Nat.ble (List.length (Row.nm (rowOf op) ++ (32 : UInt8) :: txt a) + List.length ((44 : UInt8) :: (32 : UInt8) :: (114 : UInt8) :: txt b)) (9223372036854775807 : Nat))
 (needS (Nat.ble ((2 : Nat) + List.length (txt n)) (9223372036854775807 : Nat))
 (needS
 (Nat.ble (List.length (Row.nm (rowOf op) ++ (32 : UInt8) :: txt a ++ (44 : UInt8) :: (32 : UInt8) :: (114 : UInt8) :: txt b) + List.length ((44 : UInt8) :: (32 : UInt8) :: txt n)) (9223372036854775807 : Nat))
 (Q (IV.str (Row.nm (rowOf op) ++ (32 : UInt8) :: txt a ++ (44 : UInt8) :: (32 : UInt8) :: (114 : UInt8) :: txt b ++ (44 : UInt8) :: (32 : UInt8) :: txt n)) h)))))))
 (brS (Row.fm (rowOf op) == (5 : Int))
 (((-9223372036854775808 : Int) ≤ n ∧ n ≤ (9223372036854775807 : Int)) ∧
 needS (Nat.ble ((1 : Nat) + List.length (txt a)) (9223372036854775807 : Nat))
 (needS (Nat.ble (List.length (Row.nm (rowOf op)) + List.length ((32 : UInt8) :: txt a)) (9223372036854775807 : Nat))
 (needS (Nat.ble ((2 : Nat) + List.length ((114 : UInt8) :: txt b)) (9223372036854775807 : Nat))
 (needS (Nat.ble (List.length (Row.nm (rowOf op) ++ (32 : UInt8) :: txt a) + List.length ((44 : UInt8) :: (32 : UInt8) :: (114 : UInt8) :: txt b)) (9223372036854775807 : Nat))
 (needS (Nat.ble ((2 : Nat) + List.length (txt n)) (9223372036854775807 : Nat))
 (needS
 (Nat.ble (List.length (Row.nm (rowOf op) ++ (32 : UInt8) :: txt a ++ (44 : UInt8) :: (32 : UInt8) :: (114 : UInt8) :: txt b) + List.length ((44 : UInt8) :: (32 : UInt8) :: txt n)) (9223372036854775807 : Nat))
 (Q (IV.str (Row.nm (rowOf op) ++ (32 : UInt8) :: txt a ++ (44 : UInt8) :: (32 : UInt8) :: (114 : UInt8) :: txt b ++ (44 : UInt8) :: (32 : UInt8) :: txt n)) h)))))))
 (brS (Row.fm (rowOf op) == (6 : Int))
 (((-9223372036854775808 : Int) ≤ n ∧ n ≤ (9223372036854775807 : Int)) ∧
 needS (Nat.ble ((1 : Nat) + List.length (txt a)) (9223372036854775807 : Nat))
 (needS (Nat.ble (List.length (Row.nm (rowOf op)) + List.length ((32 : UInt8) :: txt a)) (9223372036854775807 : Nat))
 (needS (Nat.ble ((2 : Nat) + List.length ((114 : UInt8) :: txt b)) (9223372036854775807 : Nat))
 (needS (Nat.ble (List.length (Row.nm (rowOf op) ++ (32 : UInt8) :: txt a) + List.length ((44 : UInt8) :: (32 : UInt8) :: (114 : UInt8) :: txt b)) (9223372036854775807 : Nat))
 (needS (Nat.ble ((2 : Nat) + List.length (txt n)) (9223372036854775807 : Nat))
 (needS
 (Nat.ble (List.length (Row.nm (rowOf op) ++ (32 : UInt8) :: txt a ++ (44 : UInt8) :: (32 : UInt8) :: (114 : UInt8) :: txt b) + List.length ((44 : UInt8) :: (32 : UInt8) :: txt n))
 (9223372036854775807 : Nat))
 (Q (IV.str (Row.nm (rowOf op) ++ (32 : UInt8) :: txt a ++ (44 : UInt8) :: (32 : UInt8) :: (114 : UInt8) :: txt b ++ (44 : UInt8) :: (32 : UInt8) :: txt n)) h)))))))
 (brS (Row.fm (rowOf op) == (7 : Int))
 (((-9223372036854775808 : Int) ≤ n ∧ n ≤ (9223372036854775807 : Int)) ∧
 needS (Nat.ble ((1 : Nat) + List.length (txt a)) (9223372036854775807 : Nat))
 (needS (Nat.ble (List.length (Row.nm (rowOf op)) + List.length ((32 : UInt8) :: txt a)) (9223372036854775807 : Nat))
 (needS (Nat.ble ((2 : Nat) + List.length ((114 : UInt8) :: txt b)) (9223372036854775807 : Nat))
 (needS (Nat.ble (List.length (Row.nm (rowOf op) ++ (32 : UInt8) :: txt a) + List.length ((44 : UInt8) :: (32 : UInt8) :: (114 : UInt8) :: txt b)) (9223372036854775807 : Nat))
 (needS (Nat.ble ((2 : Nat) + List.length (txt n)) (9223372036854775807 : Nat))
 (needS
 (Nat.ble (List.length (Row.nm (rowOf op) ++ (32 : UInt8) :: txt a ++ (44 : UInt8) :: (32 : UInt8) :: (114 : UInt8) :: txt b) + List.length ((44 : UInt8) :: (32 : UInt8) :: txt n))
 (9223372036854775807 : Nat))
 (Q (IV.str (Row.nm (rowOf op) ++ (32 : UInt8) :: txt a ++ (44 : UInt8) :: (32 : UInt8) :: (114 : UInt8) :: txt b ++ (44 : UInt8) :: (32 : UInt8) :: txt n)) h)))))))
 (needS (Nat.ble ((1 : Nat) + List.length (txt a)) (9223372036854775807 : Nat))
 (needS (Nat.ble (List.length (Row.nm (rowOf op)) + List.length ((32 : UInt8) :: txt a)) (9223372036854775807 : Nat))
 (needS (Nat.ble ((2 : Nat) + List.length ((114 : UInt8) :: txt b)) (9223372036854775807 : Nat))
 (needS (Nat.ble (List.length (Row.nm (rowOf op) ++ (32 : UInt8) :: txt a) + List.length ((44 : UInt8) :: (32 : UInt8) :: (114 : UInt8) :: txt b)) (9223372036854775807 : Nat))
 (Q (IV.str (Row.nm (rowOf op) ++ (32 : UInt8) :: txt a ++ (44 : UInt8) :: (32 : UInt8) :: (114 : UInt8) :: txt b)) h)))))))))))
 (brS (Row.fm (rowOf op) == (4 : Int))
 (((-9223372036854775808 : Int) ≤ b ∧ b ≤ (9223372036854775807 : Int)) ∧
 needS (Nat.ble ((1 : Nat) + List.length (txt b)) (9223372036854775807 : Nat))
 (brS (Row.fm (rowOf op) == (4 : Int))
 (((-9223372036854775808 : Int) ≤ c ∧ c ≤ (9223372036854775807 : Int)) ∧
 needS (Nat.ble ((1 : Nat) + List.length (txt c)) (9223372036854775807 : Nat))
 (brS (Row.fm (rowOf op) == (8 : Int))
 (((-9223372036854775808 : Int) ≤ n ∧ n ≤ (9223372036854775807 : Int)) ∧
 needS (Nat.ble ((1 : Nat) + List.length (txt a)) (9223372036854775807 : Nat))
 (needS (Nat.ble (List.length (Row.nm (rowOf op)) + List.length ((32 : UInt8) :: txt a)) (9223372036854775807 : Nat))
 (needS (Nat.ble ((2 : Nat) + List.length ((114 : UInt8) :: txt b)) (9223372036854775807 : Nat))
 (needS (Nat.ble (List.length (Row.nm (rowOf op) ++ (32 : UInt8) :: txt a) + List.length ((44 : UInt8) :: (32 : UInt8) :: (114 : UInt8) :: txt b)) (9223372036854775807 : Nat))
 (needS (Nat.ble ((2 : Nat) + List.length ((114 : UInt8) :: txt c)) (9223372036854775807 : Nat))
 (needS
 (Nat.ble (List.length (Row.nm (rowOf op) ++ (32 : UInt8) :: txt a ++ (44 : UInt8) :: (32 : UInt8) :: (114 : UInt8) :: txt b) + List.length ((44 : UInt8) :: (32 : UInt8) :: (114 : UInt8) :: txt c))
 (9223372036854775807 : Nat))
 (needS (Nat.ble ((2 : Nat) + List.length (txt n)) (9223372036854775807 : Nat))
 (needS
 (Nat.ble
 (List.length (Row.nm (rowOf op) ++ (32 : UInt8) :: txt a ++ (44 : UInt8) :: (32 : UInt8) :: (114 : UInt8) :: txt b ++ (44 : UInt8) :: (32 : UInt8) :: (114 : UInt8) :: txt c) +
 List.length ((44 : UInt8) :: (32 : UInt8) :: txt n))
 (9223372036854775807 : Nat))
 (Q
 (IV.str
 (Row.nm (rowOf op) ++ (32 : UInt8) :: txt a ++ (44 : UInt8) :: (32 : UInt8) :: (114 : UInt8) :: txt b ++ (44 : UInt8) :: (32 : UInt8) :: (114 : UInt8) :: txt c ++
 (44 : UInt8) :: (32 : UInt8) :: txt n))
 h)))))))))
 (brS (Row.fm (rowOf op) == (5 : Int))
 (((-9223372036854775808 : Int) ≤ n ∧ n ≤ (9223372036854775807 : Int)) ∧
 needS (Nat.ble ((1 : Nat) + List.length (txt a)) (9223372036854775807 : Nat))
 (needS (Nat.ble (List.length (Row.nm (rowOf op)) + List.length ((32 : UInt8) :: txt a)) (9223372036854775807 : Nat))
 (needS (Nat.ble ((2 : Nat) + List.length ((114 : UInt8) :: txt b)) (9223372036854775807 : Nat))
 (needS (Nat.ble (List.length (Row.nm (rowOf op) ++ (32 : UInt8) :: txt a) + List.length ((44 : UInt8) :: (32 : UInt8) :: (114 : UInt8) :: txt b)) (9223372036854775807 : Nat))
 (needS (Nat.ble ((2 : Nat) + List.length ((114 : UInt8) :: txt c)) (9223372036854775807 : Nat))
 (needS
 (Nat.ble (List.length (Row.nm (rowOf op) ++ (32 : UInt8) :: txt a ++ (44 : UInt8) :: (32 : UInt8) :: (114 : UInt8) :: txt b) + List.length ((44 : UInt8) :: (32 : UInt8) :: (114 : UInt8) :: txt c))
 (9223372036854775807 : Nat))
 (needS (Nat.ble ((2 : Nat) + List.length (txt n)) (9223372036854775807 : Nat))
 (needS
 (Nat.ble
 (List.length (Row.nm (rowOf op) ++ (32 : UInt8) :: txt a ++ (44 : UInt8) :: (32 : UInt8) :: (114 : UInt8) :: txt b ++ (44 : UInt8) :: (32 : UInt8) :: (114 : UInt8) :: txt c) +
 List.length ((44 : UInt8) :: (32 : UInt8) :: txt n))
 (9223372036854775807 : Nat))
 (Q
 (IV.str
 (Row.nm (rowOf op) ++ (32 : UInt8) :: txt a ++ (44 : UInt8) :: (32 : UInt8) :: (114 : UInt8) :: txt b ++ (44 : UInt8) :: (32 : UInt8) :: (114 : UInt8) :: txt c ++
 (44 : UInt8) :: (32 : UInt8) :: txt n))
 h)))))))))
 (brS (Row.fm (rowOf op) == (6 : Int))
 (((-9223372036854775808 : Int) ≤ n ∧ n ≤ (9223372036854775807 : Int)) ∧
 needS (Nat.ble ((1 : Nat) + List.length (txt a)) (9223372036854775807 : Nat))
 (needS (Nat.ble (List.length (Row.nm (rowOf op)) + List.length ((32 : UInt8) :: txt a)) (9223372036854775807 : Nat))
 (needS (Nat.ble ((2 : Nat) + List.length ((114 : UInt8) :: txt b)) (9223372036854775807 : Nat))
 (needS (Nat.ble (List.length (Row.nm (rowOf op) ++ (32 : UInt8) :: txt a) + List.length ((44 : UInt8) :: (32 : UInt8) :: (114 : UInt8) :: txt b)) (9223372036854775807 : Nat))
 (needS (Nat.ble ((2 : Nat) + List.length ((114 : UInt8) :: txt c)) (9223372036854775807 : Nat))
 (needS
 (Nat.ble (List.length (Row.nm (rowOf op) ++ (32 : UInt8) :: txt a ++ (44 : UInt8) :: (32 : UInt8) :: (114 : UInt8) :: txt b) + List.length ((44 : UInt8) :: (32 : UInt8) :: (114 : UInt8) :: txt c))
 (9223372036854775807 : Nat))
 (needS (Nat.ble ((2 : Nat) + List.length (txt n)) (9223372036854775807 : Nat))
 (needS
 (Nat.ble
 (List.length (Row.nm (rowOf op) ++ (32 : UInt8) :: txt a ++ (44 : UInt8) :: (32 : UInt8) :: (114 : UInt8) :: txt b ++ (44 : UInt8) :: (32 : UInt8) :: (114 : UInt8) :: txt c) +
 List.length ((44 : UInt8) :: (32 : UInt8) :: txt n))
 (9223372036854775807 : Nat))
 (Q
 (IV.str
 (Row.nm (rowOf op) ++ (32 : UInt8) :: txt a ++ (44 : UInt8) :: (32 : UInt8) :: (114 : UInt8) :: txt b ++ (44 : UInt8) :: (32 : UInt8) :: (114 : UInt8) :: txt c ++
 (44 : UInt8) :: (32 : UInt8) :: txt n))
 h)))))))))
 (brS (Row.fm (rowOf op) == (7 : Int))
 (((-9223372036854775808 : Int) ≤ n ∧ n ≤ (9223372036854775807 : Int)) ∧
 needS (Nat.ble ((1 : Nat) + List.length (txt a)) (9223372036854775807 : Nat))
 (needS (Nat.ble (List.length (Row.nm (rowOf op)) + List.length ((32 : UInt8) :: txt a)) (9223372036854775807 : Nat))
 (needS (Nat.ble ((2 : Nat) + List.length ((114 : UInt8) :: txt b)) (9223372036854775807 : Nat))
 (needS (Nat.ble (List.length (Row.nm (rowOf op) ++ (32 : UInt8) :: txt a) + List.length ((44 : UInt8) :: (32 : UInt8) :: (114 : UInt8) :: txt b)) (9223372036854775807 : Nat))
 (needS (Nat.ble ((2 : Nat) + List.length ((114 : UInt8) :: txt c)) (9223372036854775807 : Nat))
 (needS
 (Nat.ble (List.length (Row.nm (rowOf op) ++ (32 : UInt8) :: txt a ++ (44 : UInt8) :: (32 : UInt8) :: (114 : UInt8) :: txt b) + List.length ((44 : UInt8) :: (32 : UInt8) :: (114 : UInt8) :: txt c))
 (9223372036854775807 : Nat))
 (needS (Nat.ble ((2 : Nat) + List.length (txt n)) (9223372036854775807 : Nat))
 (needS
 (Nat.ble
 (List.length (Row.nm (rowOf op) ++ (32 : UInt8) :: txt a ++ (44 : UInt8) :: (32 : UInt8) :: (114 : UInt8) :: txt b ++ (44 : UInt8) :: (32 : UInt8) :: (114 : UInt8) :: txt c) +
 List.length ((44 : UInt8) :: (32 : UInt8) :: txt n))
 (9223372036854775807 : Nat))
 (Q
 (IV.str
 (Row.nm (rowOf op) ++ (32 : UInt8) :: txt a ++ (44 : UInt8) :: (32 : UInt8) :: (114 : UInt8) :: txt b ++ (44 : UInt8) :: (32 : UInt8) :: (114 : UInt8) :: txt c ++
 (44 : UInt8) :: (32 : UInt8) :: txt n))
 h)))))))))
 (needS (Nat.ble ((1 : Nat) + List.length (txt a)) (9223372036854775807 : Nat))
 (needS (Nat.ble (List.length (Row.nm (rowOf op)) + List.length ((32 : UInt8) :: txt a)) (9223372036854775807 : Nat))
 (needS (Nat.ble ((2 : Nat) + List.length ((114 : UInt8) :: txt b)) (9223372036854775807 : Nat))
 (needS (Nat.ble (List.length (Row.nm (rowOf op) ++ (32 : UInt8) :: txt a) + List.length ((44 : UInt8) :: (32 : UInt8) :: (114 : UInt8) :: txt b)) (9223372036854775807 : Nat))
 (needS (Nat.ble ((2 : Nat) + List.length ((114 : UInt8) :: txt c)) (9223372036854775807 : Nat))
 (needS
 (Nat.ble (List.length (Row.nm (rowOf op) ++ (32 : UInt8) :: txt a ++ (44 : UInt8) :: (32 : UInt8) :: (114 : UInt8) :: txt b) + List.length ((44 : UInt8) :: (32 : UInt8) :: (114 : UInt8) :: txt c))
 (9223372036854775807 : Nat))
 (Q (IV.str (Row.nm (rowOf op) ++ (32 : UInt8) :: txt a ++ (44 : UInt8) :: (32 : UInt8) :: (114 : UInt8) :: txt b ++ (44 : UInt8) :: (32 : UInt8) :: (114 : UInt8) :: txt c)) h))))))))))))
 (brS (Row.fm (rowOf op) == (8 : Int))
 (((-9223372036854775808 : Int) ≤ n ∧ n ≤ (9223372036854775807 : Int)) ∧
 needS (Nat.ble ((1 : Nat) + List.length (txt a)) (9223372036854775807 : Nat))
 (needS (Nat.ble (List.length (Row.nm (rowOf op)) + List.length ((32 : UInt8) :: txt a)) (9223372036854775807 : Nat))
 (needS (Nat.ble ((2 : Nat) + List.length ((114 : UInt8) :: txt b)) (9223372036854775807 : Nat))
 (needS (Nat.ble (List.length (Row.nm (rowOf op) ++ (32 : UInt8) :: txt a) + List.length ((44 : UInt8) :: (32 : UInt8) :: (114 : UInt8) :: txt b)) (9223372036854775807 : Nat))
 (needS (Nat.ble ((2 : Nat) + List.length (txt n)) (9223372036854775807 : Nat))
 (needS
 (Nat.ble (List.length (Row.nm (rowOf op) ++ (32 : UInt8) :: txt a ++ (44 : UInt8) :: (32 : UInt8) :: (114 : UInt8) :: txt b) + List.length ((44 : UInt8) :: (32 : UInt8) :: txt n)) (9223372036854775807 : Nat))
 (Q (IV.str (Row.nm (rowOf op) ++ (32 : UInt8) :: txt a ++ (44 : UInt8) :: (32 : UInt8) :: (114 : UInt8) :: txt b ++ (44 : UInt8) :: (32 : UInt8) :: txt n)) h)))))))
 (brS (Row.fm (rowOf op) == (5 : Int))
 (((-9223372036854775808 : Int) ≤ n ∧ n ≤ (9223372036854775807 : Int)) ∧
 needS (Nat.ble ((1 : Nat) + List.length (txt a)) (9223372036854775807 : Nat))
 (needS (Nat.ble (List.length (Row.nm (rowOf op)) + List.length ((32 : UInt8) :: txt a)) (9223372036854775807 : Nat))
 (needS (Nat.ble ((2 : Nat) + List.length ((114 : UInt8) :: txt b)) (9223372036854775807 : Nat))
 (needS (Nat.ble (List.length (Row.nm (rowOf op) ++ (32 : UInt8) :: txt a) + List.length ((44 : UInt8) :: (32 : UInt8) :: (114 : UInt8) :: txt b)) (9223372036854775807 : Nat))
 (needS (Nat.ble ((2 : Nat) + List.length (txt n)) (9223372036854775807 : Nat))
 (needS
 (Nat.ble (List.length (Row.nm (rowOf op) ++ (32 : UInt8) :: txt a ++ (44 : UInt8) :: (32 : UInt8) :: (114 : UInt8) :: txt b) + List.length ((44 : UInt8) :: (32 : UInt8) :: txt n))
 (9223372036854775807 : Nat))
 (Q (IV.str (Row.nm (rowOf op) ++ (32 : UInt8) :: txt a ++ (44 : UInt8) :: (32 : UInt8) :: (114 : UInt8) :: txt b ++ (44 : UInt8) :: (32 : UInt8) :: txt n)) h)))))))
 (brS (Row.fm (rowOf op) == (6 : Int))
 (((-9223372036854775808 : Int) ≤ n ∧ n ≤ (9223372036854775807 : Int)) ∧
 needS (Nat.ble ((1 : Nat) + List.length (txt a)) (9223372036854775807 : Nat))
 (needS (Nat.ble (List.length (Row.nm (rowOf op)) + List.length ((32 : UInt8) :: txt a)) (9223372036854775807 : Nat))
 (needS (Nat.ble ((2 : Nat) + List.length ((114 : UInt8) :: txt b)) (9223372036854775807 : Nat))
 (needS (Nat.ble (List.length (Row.nm (rowOf op) ++ (32 : UInt8) :: txt a) + List.length ((44 : UInt8) :: (32 : UInt8) :: (114 : UInt8) :: txt b)) (9223372036854775807 : Nat))
 (needS (Nat.ble ((2 : Nat) + List.length (txt n)) (9223372036854775807 : Nat))
 (needS
 (Nat.ble (List.length (Row.nm (rowOf op) ++ (32 : UInt8) :: txt a ++ (44 : UInt8) :: (32 : UInt8) :: (114 : UInt8) :: txt b) + List.length ((44 : UInt8) :: (32 : UInt8) :: txt n))
 (9223372036854775807 : Nat))
 (Q (IV.str (Row.nm (rowOf op) ++ (32 : UInt8) :: txt a ++ (44 : UInt8) :: (32 : UInt8) :: (114 : UInt8) :: txt b ++ (44 : UInt8) :: (32 : UInt8) :: txt n)) h)))))))
 (brS (Row.fm (rowOf op) == (7 : Int))
 (((-9223372036854775808 : Int) ≤ n ∧ n ≤ (9223372036854775807 : Int)) ∧
 needS (Nat.ble ((1 : Nat) + List.length (txt a)) (9223372036854775807 : Nat))
 (needS (Nat.ble (List.length (Row.nm (rowOf op)) + List.length ((32 : UInt8) :: txt a)) (9223372036854775807 : Nat))
 (needS (Nat.ble ((2 : Nat) + List.length ((114 : UInt8) :: txt b)) (9223372036854775807 : Nat))
 (needS (Nat.ble (List.length (Row.nm (rowOf op) ++ (32 : UInt8) :: txt a) + List.length ((44 : UInt8) :: (32 : UInt8) :: (114 : UInt8) :: txt b)) (9223372036854775807 : Nat))
 (needS (Nat.ble ((2 : Nat) + List.length (txt n)) (9223372036854775807 : Nat))
 (needS
 (Nat.ble (List.length (Row.nm (rowOf op) ++ (32 : UInt8) :: txt a ++ (44 : UInt8) :: (32 : UInt8) :: (114 : UInt8) :: txt b) + List.length ((44 : UInt8) :: (32 : UInt8) :: txt n))
 (9223372036854775807 : Nat))
 (Q (IV.str (Row.nm (rowOf op) ++ (32 : UInt8) :: txt a ++ (44 : UInt8) :: (32 : UInt8) :: (114 : UInt8) :: txt b ++ (44 : UInt8) :: (32 : UInt8) :: txt n)) h)))))))
 (needS (Nat.ble ((1 : Nat) + List.length (txt a)) (9223372036854775807 : Nat))
 (needS (Nat.ble (List.length (Row.nm (rowOf op)) + List.length ((32 : UInt8) :: txt a)) (9223372036854775807 : Nat))
 (needS (Nat.ble ((2 : Nat) + List.length ((114 : UInt8) :: txt b)) (9223372036854775807 : Nat))
 (needS (Nat.ble (List.length (Row.nm (rowOf op) ++ (32 : UInt8) :: txt a) + List.length ((44 : UInt8) :: (32 : UInt8) :: (114 : UInt8) :: txt b)) (9223372036854775807 : Nat))
 (Q (IV.str (Row.nm (rowOf op) ++ (32 : UInt8) :: txt a ++ (44 : UInt8) :: (32 : UInt8) :: (114 : UInt8) :: txt b)) h)))))))))))
 (brS (Row.fm (rowOf op) == (7 : Int))
 (((-9223372036854775808 : Int) ≤ b ∧ b ≤ (9223372036854775807 : Int)) ∧
 needS (Nat.ble ((1 : Nat) + List.length (txt b)) (9223372036854775807 : Nat))
 (brS (Row.fm (rowOf op) == (4 : Int))
 (((-9223372036854775808 : Int) ≤ c ∧ c ≤ (9223372036854775807 : Int)) ∧
 needS (Nat.ble ((1 : Nat) + List.length (txt c)) (9223372036854775807 : Nat))
 (brS (Row.fm (rowOf op) == (8 : Int))
 (((-9223372036854775808 : Int) ≤ n ∧ n ≤ (9223372036854775807 : Int)) ∧
 needS (Nat.ble ((1 : Nat) + List.length (txt a)) (9223372036854775807 : Nat))
 (needS (Nat.ble (List.length (Row.nm (rowOf op)) + List.length ((32 : UInt8) :: txt a)) (9223372036854775807 : Nat))
 (needS (Nat.ble ((2 : Nat) + List.length ((114 : UInt8) :: txt b)) (9223372036854775807 : Nat))
 (needS (Nat.ble (List.length (Row.nm (rowOf op) ++ (32 : UInt8) :: txt a) + List.length ((44 : UInt8) :: (32 : UInt8) :: (114 : UInt8) :: txt b)) (9223372036854775807 : Nat))
 (needS (Nat.ble ((2 : Nat) + List.length ((114 : UInt8) :: txt c)) (9223372036854775807 : Nat))
 (needS
 (Nat.ble (List.length (Row.nm (rowOf op) ++ (32 : UInt8) :: txt a ++ (44 : UInt8) :: (32 : UInt8) :: (114 : UInt8) :: txt b) + List.length ((44 : UInt8) :: (32 : UInt8) :: (114 : UInt8) :: txt c))
 (9223372036854775807 : Nat))
 (needS (Nat.ble ((2 : Nat) + List.length (txt n)) (9223372036854775807 : Nat))
 (needS
 (Nat.ble
 (List.length (Row.nm (rowOf op) ++ (32 : UInt8) :: txt a ++ (44 : UInt8) :: (32 : UInt8) :: (114 : UInt8) :: txt b ++ (44 : UInt8) :: (32 : UInt8) :: (114 : UInt8) :: txt c) +
 List.length ((44 : UInt8) :: (32 : UInt8) :: txt n))
 (9223372036854775807 : Nat))
 (Q
 (IV.str
 (Row.nm (rowOf op) ++ (32 : UInt8) :: txt a ++ (44 : UInt8) :: (32 : UInt8) :: (114 : UInt8) :: txt b ++ (44 : UInt8) :: (32 : UInt8) :: (114 : UInt8) :: txt c ++
 (44 : UInt8) :: (32 : UInt8) :: txt n))
 h)))))))))
 (brS (Row.fm (rowOf op) == (5 : Int))
 (((-9223372036854775808 : Int) ≤ n ∧ n ≤ (9223372036854775807 : Int)) ∧
 needS (Nat.ble ((1 : Nat) + List.length (txt a)) (9223372036854775807 : Nat))
 (needS (Nat.ble (List.length (Row.nm (rowOf op)) + List.length ((32 : UInt8) :: txt a)) (9223372036854775807 : Nat))
 (needS (Nat.ble ((2 : Nat) + List.length ((114 : UInt8) :: txt b)) (9223372036854775807 : Nat))
 (needS (Nat.ble (List.length (Row.nm (rowOf op) ++ (32 : UInt8) :: txt a) + List.length ((44 : UInt8) :: (32 : UInt8) :: (114 : UInt8) :: txt b)) (9223372036854775807 : Nat))
 (needS (Nat.ble ((2 : Nat) + List.length ((114 : UInt8) :: txt c)) (9223372036854775807 : Nat))
 (needS
 (Nat.ble (List.length (Row.nm (rowOf op) ++ (32 : UInt8) :: txt a ++ (44 : UInt8) :: (32 : UInt8) :: (114 : UInt8) :: txt b) + List.length ((44 : UInt8) :: (32 : UInt8) :: (114 : UInt8) :: txt c))
 (9223372036854775807 : Nat))
 (needS (Nat.ble ((2 : Nat) + List.length (txt n)) (9223372036854775807 : Nat))
 (needS
 (Nat.ble
 (List.length (Row.nm (rowOf op) ++ (32 : UInt8) :: txt a ++ (44 : UInt8) :: (32 : UInt8) :: (114 : UInt8) :: txt b ++ (44 : UInt8) :: (32 : UInt8) :: (114 : UInt8) :: txt c) +
 List.length ((44 : UInt8) :: (32 : UInt8) :: txt n))
 (9223372036854775807 : Nat))
 (Q
 (IV.str
 (Row.nm (rowOf op) ++ (32 : UInt8) :: txt a ++ (44 : UInt8) :: (32 : UInt8) :: (114 : UInt8) :: txt b ++ (44 : UInt8) :: (32 : UInt8) :: (114 : UInt8) :: txt c ++
 (44 : UInt8) :: (32 : UInt8) :: txt n))
 h)))))))))
 (brS (Row.fm (rowOf op) == (6 : Int))
 (((-9223372036854775808 : Int) ≤ n ∧ n ≤ (9223372036854775807 : Int)) ∧
 needS (Nat.ble ((1 : Nat) + List.length (txt a)) (9223372036854775807 : Nat))
 (needS (Nat.ble (List.length (Row.nm (rowOf op)) + List.length ((32 : UInt8) :: txt a)) (9223372036854775807 : Nat))
 (needS (Nat.ble ((2 : Nat) + List.length ((114 : UInt8) :: txt b)) (9223372036854775807 : Nat))
 (needS (Nat.ble (List.length (Row.nm (rowOf op) ++ (32 : UInt8) :: txt a) + List.length ((44 : UInt8) :: (32 : UInt8) :: (114 : UInt8) :: txt b)) (9223372036854775807 : Nat))
 (needS (Nat.ble ((2 : Nat) + List.length ((114 : UInt8) :: txt c)) (9223372036854775807 : Nat))
 (needS
 (Nat.ble (List.length (Row.nm (rowOf op) ++ (32 : UInt8) :: txt a ++ (44 : UInt8) :: (32 : UInt8) :: (114 : UInt8) :: txt b) + List.length ((44 : UInt8) :: (32 : UInt8) :: (114 : UInt8) :: txt c))
 (9223372036854775807 : Nat))
 (needS (Nat.ble ((2 : Nat) + List.length (txt n)) (9223372036854775807 : Nat))
 (needS
 (Nat.ble
 (List.length (Row.nm (rowOf op) ++ (32 : UInt8) :: txt a ++ (44 : UInt8) :: (32 : UInt8) :: (114 : UInt8) :: txt b ++ (44 : UInt8) :: (32 : UInt8) :: (114 : UInt8) :: txt c) +
 List.length ((44 : UInt8) :: (32 : UInt8) :: txt n))
 (9223372036854775807 : Nat))
 (Q
 (IV.str
 (Row.nm (rowOf op) ++ (32 : UInt8) :: txt a ++ (44 : UInt8) :: (32 : UInt8) :: (114 : UInt8) :: txt b ++ (44 : UInt8) :: (32 : UInt8) :: (114 : UInt8) :: txt c ++
 (44 : UInt8) :: (32 : UInt8) :: txt n))
 h)))))))))
 (brS (Row.fm (rowOf op) == (7 : Int))
 (((-9223372036854775808 : Int) ≤ n ∧ n ≤ (9223372036854775807 : Int)) ∧
 needS (Nat.ble ((1 : Nat) + List.length (txt a)) (9223372036854775807 : Nat))
 (needS (Nat.ble (List.length (Row.nm (rowOf op)) + List.length ((32 : UInt8) :: txt a)) (9223372036854775807 : Nat))
 (needS (Nat.ble ((2 : Nat) + List.length ((114 : UInt8) :: txt b)) (9223372036854775807 : Nat))
 (needS (Nat.ble (List.length (Row.nm (rowOf op) ++ (32 : UInt8) :: txt a) + List.length ((44 : UInt8) :: (32 : UInt8) :: (114 : UInt8) :: txt b)) (9223372036854775807 : Nat))
 (needS (Nat.ble ((2 : Nat) + List.length ((114 : UInt8) :: txt c)) (9223372036854775807 : Nat))
 (needS
 (Nat.ble (List.length (Row.nm (rowOf op) ++ (32 : UInt8) :: txt a ++ (44 : UInt8) :: (32 : UInt8) :: (114 : UInt8) :: txt b) + List.length ((44 : UInt8) :: (32 : UInt8) :: (114 : UInt8) :: txt c))
 (9223372036854775807 : Nat))
 (needS (Nat.ble ((2 : Nat) + List.length (txt n)) (9223372036854775807 : Nat))
 (needS
 (Nat.ble
 (List.length (Row.nm (rowOf op) ++ (32 : UInt8) :: txt a ++ (44 : UInt8) :: (32 : UInt8) :: (114 : UInt8) :: txt b ++ (44 : UInt8) :: (32 : UInt8) :: (114 : UInt8) :: txt c) +
 List.length ((44 : UInt8) :: (32 : UInt8) :: txt n))
 (9223372036854775807 : Nat))
 (Q
 (IV.str
 (Row.nm (rowOf op) ++ (32 : UInt8) :: txt a ++ (44 : UInt8) :: (32 : UInt8) :: (114 : UInt8) :: txt b ++ (44 : UInt8) :: (32 : UInt8) :: (114 : UInt8) :: txt c ++
 (44 : UInt8) :: (32 : UInt8) :: txt n))
 h)))))))))
 (needS (Nat.ble ((1 : Nat) + List.length (txt a)) (9223372036854775807 : Nat))
 (needS (Nat.ble (List.length (Row.nm (rowOf op)) + List.length ((32 : UInt8) :: txt a)) (9223372036854775807 : Nat))
 (needS (Nat.ble ((2 : Nat) + List.length ((114 : UInt8) :: txt b)) (9223372036854775807 : Nat))
 (needS (Nat.ble (List.length (Row.nm (rowOf op) ++ (32 : UInt8) :: txt a) + List.length ((44 : UInt8) :: (32 : UInt8) :: (114 : UInt8) :: txt b)) (9223372036854775807 : Nat))
 (needS (Nat.ble ((2 : Nat) + List.length ((114 : UInt8) :: txt c)) (9223372036854775807 : Nat))
 (needS
 (Nat.ble (List.length (Row.nm (rowOf op) ++ (32 : UInt8) :: txt a ++ (44 : UInt8) :: (32 : UInt8) :: (114 : UInt8) :: txt b) + List.length ((44 : UInt8) :: (32 : UInt8) :: (114 : UInt8) :: txt c))
 (9223372036854775807 : Nat))
 (Q (IV.str (Row.nm (rowOf op) ++ (32 : UInt8) :: txt a ++ (44 : UInt8) :: (32 : UInt8) :: (114 : UInt8) :: txt b ++ (44 : UInt8) :: (32 : UInt8) :: (114 : UInt8) :: txt c)) h))))))))))))
 (brS (Row.fm (rowOf op) == (8 : Int))
 (((-9223372036854775808 : Int) ≤ n ∧ n ≤ (9223372036854775807 : Int)) ∧
 needS (Nat.ble ((1 : Nat) + List.length (txt a)) (9223372036854775807 : Nat))
 (needS (Nat.ble (List.length (Row.nm (rowOf op)) + List.length ((32 : UInt8) :: txt a)) (9223372036854775807 : Nat))
 (needS (Nat.ble ((2 : Nat) + List.length ((114 : UInt8) :: txt b)) (9223372036854775807 : Nat))
 (needS (Nat.ble (List.length (Row.nm (rowOf op) ++ (32 : UInt8) :: txt a) + List.length ((44 : UInt8) :: (32 : UInt8) :: (114 : UInt8) :: txt b)) (9223372036854775807 : Nat))
 (needS (Nat.ble ((2 : Nat) + List.length (txt n)) (9223372036854775807 : Nat))
 (needS
 (Nat.ble (List.length (Row.nm (rowOf op) ++ (32 : UInt8) :: txt a ++ (44 : UInt8) :: (32 : UInt8) :: (114 : UInt8) :: txt b) + List.length ((44 : UInt8) :: (32 : UInt8) :: txt n))
 (9223372036854775807 : Nat))
 (Q (IV.str (Row.nm (rowOf op) ++ (32 : UInt8) :: txt a ++ (44 : UInt8) :: (32 : UInt8) :: (114 : UInt8) :: txt b ++ (44 : UInt8) :: (32 : UInt8) :: txt n)) h)))))))
 (brS (Row.fm (rowOf op) == (5 : Int))
 (((-9223372036854775808 : Int) ≤ n ∧ n ≤ (9223372036854775807 : Int)) ∧
 needS (Nat.ble ((1 : Nat) + List.length (txt a)) (9223372036854775807 : Nat))
 (needS (Nat.ble (List.length (Row.nm (rowOf op)) + List.length ((32 : UInt8) :: txt a)) (9223372036854775807 : Nat))
 (needS (Nat.ble ((2 : Nat) + List.length ((114 : UInt8) :: txt b)) (9223372036854775807 : Nat))
 (needS (Nat.ble (List.length (Row.nm (rowOf op) ++ (32 : UInt8) :: txt a) + List.length ((44 : UInt8) :: (32 : UInt8) :: (114 : UInt8) :: txt b)) (9223372036854775807 : Nat))
 (needS (Nat.ble ((2 : Nat) + List.length (txt n)) (9223372036854775807 : Nat))
 (needS
 (Nat.ble (List.length (Row.nm (rowOf op) ++ (32 : UInt8) :: txt a ++ (44 : UInt8) :: (32 : UInt8) :: (114 : UInt8) :: txt b) + List.length ((44 : UInt8) :: (32 : UInt8) :: txt n))
 (9223372036854775807 : Nat))
 (Q (IV.str (Row.nm (rowOf op) ++ (32 : UInt8) :: txt a ++ (44 : UInt8) :: (32 : UInt8) :: (114 : UInt8) :: txt b ++ (44 : UInt8) :: (32 : UInt8) :: txt n)) h)))))))
 (brS (Row.fm (rowOf op) == (6 : Int))
 (((-9223372036854775808 : Int) ≤ n ∧ n ≤ (9223372036854775807 : Int)) ∧
 needS (Nat.ble ((1 : Nat) + List.length (txt a)) (9223372036854775807 : Nat))
 (needS (Nat.ble (List.length (Row.nm (rowOf op)) + List.length ((32 : UInt8) :: txt a)) (9223372036854775807 : Nat))
 (needS (Nat.ble ((2 : Nat) + List.length ((114 : UInt8) :: txt b)) (9223372036854775807 : Nat))
 (needS (Nat.ble (List.length (Row.nm (rowOf op) ++ (32 : UInt8) :: txt a) + List.length ((44 : UInt8) :: (32 : UInt8) :: (114 : UInt8) :: txt b)) (9223372036854775807 : Nat))
 (needS (Nat.ble ((2 : Nat) + List.length (txt n)) (9223372036854775807 : Nat))
 (needS
 (Nat.ble (List.length (Row.nm (rowOf op) ++ (32 : UInt8) :: txt a ++ (44 : UInt8) :: (32 : UInt8) :: (114 : UInt8) :: txt b) + List.length ((44 : UInt8) :: (32 : UInt8) :: txt n))
 (9223372036854775807 : Nat))
 (Q (IV.str (Row.nm (rowOf op) ++ (32 : UInt8) :: txt a ++ (44 : UInt8) :: (32 : UInt8) :: (114 : UInt8) :: txt b ++ (44 : UInt8) :: (32 : UInt8) :: txt n)) h)))))))
 (brS (Row.fm (rowOf op) == (7 : Int))
 (((-9223372036854775808 : Int) ≤ n ∧ n ≤ (9223372036854775807 : Int)) ∧
 needS (Nat.ble ((1 : Nat) + List.length (txt a)) (9223372036854775807 : Nat))
 (needS (Nat.ble (List.length (Row.nm (rowOf op)) + List.length ((32 : UInt8) :: txt a)) (9223372036854775807 : Nat))
 (needS (Nat.ble ((2 : Nat) + List.length ((114 : UInt8) :: txt b)) (9223372036854775807 : Nat))
 (needS (Nat.ble (List.length (Row.nm (rowOf op) ++ (32 : UInt8) :: txt a) + List.length ((44 : UInt8) :: (32 : UInt8) :: (114 : UInt8) :: txt b)) (9223372036854775807 : Nat))
 (needS (Nat.ble ((2 : Nat) + List.length (txt n)) (9223372036854775807 : Nat))
 (needS
 (Nat.ble (List.length (Row.nm (rowOf op) ++ (32 : UInt8) :: txt a ++ (44 : UInt8) :: (32 : UInt8) :: (114 : UInt8) :: txt b) + List.length ((44 : UInt8) :: (32 : UInt8) :: txt n))
 (9223372036854775807 : Nat))
 (Q (IV.str (Row.nm (rowOf op) ++ (32 : UInt8) :: txt a ++ (44 : UInt8) :: (32 : UInt8) :: (114 : UInt8) :: txt b ++ (44 : UInt8) :: (32 : UInt8) :: txt n)) h)))))))
 (needS (Nat.ble ((1 : Nat) + List.length (txt a)) (9223372036854775807 : Nat))
 (needS (Nat.ble (List.length (Row.nm (rowOf op)) + List.length ((32 : UInt8) :: txt a)) (9223372036854775807 : Nat))
 (needS (Nat.ble ((2 : Nat) + List.length ((114 : UInt8) :: txt b)) (9223372036854775807 : Nat))
 (needS (Nat.ble (List.length (Row.nm (rowOf op) ++ (32 : UInt8) :: txt a) + List.length ((44 : UInt8) :: (32 : UInt8) :: (114 : UInt8) :: txt b)) (9223372036854775807 : Nat))
 (Q (IV.str (Row.nm (rowOf op) ++ (32 : UInt8) :: txt a ++ (44 : UInt8) :: (32 : UInt8) :: (114 : UInt8) :: txt b)) h)))))))))))
 (brS (Row.fm (rowOf op) == (4 : Int))
 (((-9223372036854775808 : Int) ≤ c ∧ c ≤ (9223372036854775807 : Int)) ∧
 needS (Nat.ble ((1 : Nat) + List.length (txt c)) (9223372036854775807 : Nat))
 (brS (Row.fm (rowOf op) == (8 : Int))
 (((-9223372036854775808 : Int) ≤ n ∧ n ≤ (9223372036854775807 : Int)) ∧
 needS (Nat.ble ((1 : Nat) + List.length (txt a)) (9223372036854775807 : Nat))
 (needS (Nat.ble (List.length (Row.nm (rowOf op)) + List.length ((32 : UInt8) :: txt a)) (9223372036854775807 : Nat))
 (needS (Nat.ble ((2 : Nat) + List.length ((114 : UInt8) :: txt c)) (9223372036854775807 : Nat))
 (needS (Nat.ble (List.length (Row.nm (rowOf op) ++ (32 : UInt8) :: txt a) + List.length ((44 : UInt8) :: (32 : UInt8) :: (114 : UInt8) :: txt c)) (9223372036854775807 : Nat))
 (needS (Nat.ble ((2 : Nat) + List.length (txt n)) (9223372036854775807 : Nat))
 (needS
 (Nat.ble (List.length (Row.nm (rowOf op) ++ (32 : UInt8) :: txt a ++ (44 : UInt8) :: (32 : UInt8) :: (114 : UInt8) :: txt c) + List.length ((44 : UInt8) :: (32 : UInt8) :: txt n))
 (9223372036854775807 : Nat))
 (Q (IV.str (Row.nm (rowOf op) ++ (32 : UInt8) :: txt a ++ (44 : UInt8) :: (32 : UInt8) :: (114 : UInt8) :: txt c ++ (44 : UInt8) :: (32 : UInt8) :: txt n)) h)))))))
 (brS (Row.fm (rowOf op) == (5 : Int))
 (((-9223372036854775808 : Int) ≤ n ∧ n ≤ (9223372036854775807 : Int)) ∧
 needS (Nat.ble ((1 : Nat) + List.length (txt a)) (9223372036854775807 : Nat))
 (needS (Nat.ble (List.length (Row.nm (rowOf op)) + List.length ((32 : UInt8) :: txt a)) (9223372036854775807 : Nat))
 (needS (Nat.ble ((2 : Nat) + List.length ((114 : UInt8) :: txt c)) (9223372036854775807 : Nat))
 (needS (Nat.ble (List.length (Row.nm (rowOf op) ++ (32 : UInt8) :: txt a) + List.length ((44 : UInt8) :: (32 : UInt8) :: (114 : UInt8) :: txt c)) (9223372036854775807 : Nat))
 (needS (Nat.ble ((2 : Nat) + List.length (txt n)) (9223372036854775807 : Nat))
 (needS
 (Nat.ble (List.length (Row.nm (rowOf op) ++ (32 : UInt8) :: txt a ++ (44 : UInt8) :: (32 : UInt8) :: (114 : UInt8) :: txt c) + List.length ((44 : UInt8) :: (32 : UInt8) :: txt n))
 (9223372036854775807 : Nat))
 (Q (IV.str (Row.nm (rowOf op) ++ (32 : UInt8) :: txt a ++ (44 : UInt8) :: (32 : UInt8) :: (114 : UInt8) :: txt c ++ (44 : UInt8) :: (32 : UInt8) :: txt n)) h)))))))
 (brS (Row.fm (rowOf op) == (6 : Int))
 (((-9223372036854775808 : Int) ≤ n ∧ n ≤ (9223372036854775807 : Int)) ∧
 needS (Nat.ble ((1 : Nat) + List.length (txt a)) (9223372036854775807 : Nat))
 (needS (Nat.ble (List.length (Row.nm (rowOf op)) + List.length ((32 : UInt8) :: txt a)) (9223372036854775807 : Nat))
 (needS (Nat.ble ((2 : Nat) + List.length ((114 : UInt8) :: txt c)) (9223372036854775807 : Nat))
 (needS (Nat.ble (List.length (Row.nm (rowOf op) ++ (32 : UInt8) :: txt a) + List.length ((44 : UInt8) :: (32 : UInt8) :: (114 : UInt8) :: txt c)) (9223372036854775807 : Nat))
 (needS (Nat.ble ((2 : Nat) + List.length (txt n)) (9223372036854775807 : Nat))
 (needS
 (Nat.ble (List.length (Row.nm (rowOf op) ++ (32 : UInt8) :: txt a ++ (44 : UInt8) :: (32 : UInt8) :: (114 : UInt8) :: txt c) + List.length ((44 : UInt8) :: (32 : UInt8) :: txt n))
 (9223372036854775807 : Nat))
 (Q (IV.str (Row.nm (rowOf op) ++ (32 : UInt8) :: txt a ++ (44 : UInt8) :: (32 : UInt8) :: (114 : UInt8) :: txt c ++ (44 : UInt8) :: (32 : UInt8) :: txt n)) h)))))))
 (brS (Row.fm (rowOf op) == (7 : Int))
 (((-9223372036854775808 : Int) ≤ n ∧ n ≤ (9223372036854775807 : Int)) ∧
 needS (Nat.ble ((1 : Nat) + List.length (txt a)) (9223372036854775807 : Nat))
 (needS (Nat.ble (List.length (Row.nm (rowOf op)) + List.length ((32 : UInt8) :: txt a)) (9223372036854775807 : Nat))
 (needS (Nat.ble ((2 : Nat) + List.length ((114 : UInt8) :: txt c)) (9223372036854775807 : Nat))
 (needS (Nat.ble (List.length (Row.nm (rowOf op) ++ (32 : UInt8) :: txt a) + List.length ((44 : UInt8) :: (32 : UInt8) :: (114 : UInt8) :: txt c)) (9223372036854775807 : Nat))
 (needS (Nat.ble ((2 : Nat) + List.length (txt n)) (9223372036854775807 : Nat))
 (needS
 (Nat.ble (List.length (Row.nm (rowOf op) ++ (32 : UInt8) :: txt a ++ (44 : UInt8) :: (32 : UInt8) :: (114 : UInt8) :: txt c) + List.length ((44 : UInt8) :: (32 : UInt8) :: txt n))
 (9223372036854775807 : Nat))
 (Q (IV.str (Row.nm (rowOf op) ++ (32 : UInt8) :: txt a ++ (44 : UInt8) :: (32 : UInt8) :: (114 : UInt8) :: txt c ++ (44 : UInt8) :: (32 : UInt8) :: txt n)) h)))))))
 (needS (Nat.ble ((1 : Nat) + List.length (txt a)) (9223372036854775807 : Nat))
 (needS (Nat.ble (List.length (Row.nm (rowOf op)) + List.length ((32 : UInt8) :: txt a)) (9223372036854775807 : Nat))
 (needS (Nat.ble ((2 : Nat) + List.length ((114 : UInt8) :: txt c)) (9223372036854775807 : Nat))
 (needS (Nat.ble (List.length (Row.nm (rowOf op) ++ (32 : UInt8) :: txt a) + List.length ((44 : UInt8) :: (32 : UInt8) :: (114 : UInt8) :: txt c)) (9223372036854775807 : Nat))
 (Q (IV.str (Row.nm (rowOf op) ++ (32 : UInt8) :: txt a ++ (44 : UInt8) :: (32 : UInt8) :: (114 : UInt8) :: txt c)) h))))))))))
 (brS (Row.fm (rowOf op) == (8 : Int))
 (((-9223372036854775808 : Int) ≤ n ∧ n ≤ (9223372036854775807 : Int)) ∧
 needS (Nat.ble ((1 : Nat) + List.length (txt a)) (9223372036854775807 : Nat))
 (needS (Nat.ble (List.length (Row.nm (rowOf op)) + List.length ((32 : UInt8) :: txt a)) (9223372036854775807 : Nat))
 (needS (Nat.ble ((2 : Nat) + List.length (txt n)) (9223372036854775807 : Nat))
 (needS (Nat.ble (List.length (Row.nm (rowOf op) ++ (32 : UInt8) :: txt a) + List.length ((44 : UInt8) :: (32 : UInt8) :: txt n)) (9223372036854775807 : Nat))
 (Q (IV.str (Row.nm (rowOf op) ++ (32 : UInt8) :: txt a ++ (44 : UInt8) :: (32 : UInt8) :: txt n)) h)))))
 (brS (Row.fm (rowOf op) == (5 : Int))
 (((-9223372036854775808 : Int) ≤ n ∧ n ≤ (9223372036854775807 : Int)) ∧
 needS (Nat.ble ((1 : Nat) + List.length (txt a)) (9223372036854775807 : Nat))
 (needS (Nat.ble (List.length (Row.nm (rowOf op)) + List.length ((32 : UInt8) :: txt a)) (9223372036854775807 : Nat))
 (needS (Nat.ble ((2 : Nat) + List.length (txt n)) (9223372036854775807 : Nat))
 (needS (Nat.ble (List.length (Row.nm (rowOf op) ++ (32 : UInt8) :: txt a) + List.length ((44 : UInt8) :: (32 : UInt8) :: txt n)) (9223372036854775807 : Nat))
 (Q (IV.str (Row.nm (rowOf op) ++ (32 : UInt8) :: txt a ++ (44 : UInt8) :: (32 : UInt8) :: txt n)) h)))))
 (brS (Row.fm (rowOf op) == (6 : Int))
 (((-9223372036854775808 : Int) ≤ n ∧ n ≤ (9223372036854775807 : Int)) ∧
 needS (Nat.ble ((1 : Nat) + List.length (txt a)) (9223372036854775807 : Nat))
 (needS (Nat.ble (List.length (Row.nm (rowOf op)) + List.length ((32 : UInt8) :: txt a)) (9223372036854775807 : Nat))
 (needS (Nat.ble ((2 : Nat) + List.length (txt n)) (9223372036854775807 : Nat))
 (needS (Nat.ble (List.length (Row.nm (rowOf op) ++ (32 : UInt8) :: txt a) + List.length ((44 : UInt8) :: (32 : UInt8) :: txt n)) (9223372036854775807 : Nat))
 (Q (IV.str (Row.nm (rowOf op) ++ (32 : UInt8) :: txt a ++ (44 : UInt8) :: (32 : UInt8) :: txt n)) h)))))
 (brS (Row.fm (rowOf op) == (7 : Int))
 (((-9223372036854775808 : Int) ≤ n ∧ n ≤ (9223372036854775807 : Int)) ∧
 needS (Nat.ble ((1 : Nat) + List.length (txt a)) (9223372036854775807 : Nat))
 (needS (Nat.ble (List.length (Row.nm (rowOf op)) + List.length ((32 : UInt8) :: txt a)) (9223372036854775807 : Nat))
 (needS (Nat.ble ((2 : Nat) + List.length (txt n)) (9223372036854775807 : Nat))
 (needS (Nat.ble (List.length (Row.nm (rowOf op) ++ (32 : UInt8) :: txt a) + List.length ((44 : UInt8) :: (32 : UInt8) :: txt n)) (9223372036854775807 : Nat))
 (Q (IV.str (Row.nm (rowOf op) ++ (32 : UInt8) :: txt a ++ (44 : UInt8) :: (32 : UInt8) :: txt n)) h)))))
 (needS (Nat.ble ((1 : Nat) + List.length (txt a)) (9223372036854775807 : Nat))
 (needS (Nat.ble (List.length (Row.nm (rowOf op)) + List.length ((32 : UInt8) :: txt a)) (9223372036854775807 : Nat)) (Q (IV.str (Row.nm (rowOf op) ++ (32 : UInt8) :: txt a)) h)))))))))))
 (brS (Row.fm (rowOf op) != (1 : Int))
 (brS (Row.fm (rowOf op) != (8 : Int))
 (((-9223372036854775808 : Int) ≤ a ∧ a ≤ (9223372036854775807 : Int)) ∧
 needS (Nat.ble ((1 : Nat) + List.length (txt a)) (9223372036854775807 : Nat))
 (brS (Row.fm (rowOf op) == (3 : Int))
 (((-9223372036854775808 : Int) ≤ b ∧ b ≤ (9223372036854775807 : Int)) ∧
 needS (Nat.ble ((1 : Nat) + List.length (txt b)) (9223372036854775807 : Nat))
 (brS (Row.fm (rowOf op) == (4 : Int))
 (((-9223372036854775808 : Int) ≤ c ∧ c ≤ (9223372036854775807 : Int)) ∧
 needS (Nat.ble ((1 : Nat) + List.length (txt c)) (9223372036854775807 : Nat))
 (brS (Row.fm (rowOf op) == (8 : Int))
 (((-9223372036854775808 : Int) ≤ n ∧ n ≤ (9223372036854775807 : Int)) ∧
 needS (Nat.ble ((1 : Nat) + List.length ((114 : UInt8) :: txt a)) (9223372036854775807 : Nat))
 (needS (Nat.ble (List.length (Row.nm (rowOf op)) + List.length ((32 : UInt8) :: (114 : UInt8) :: txt a)) (9223372036854775807 : Nat))
 (needS (Nat.ble ((2 : Nat) + List.length ((114 : UInt8) :: txt b)) (9223372036854775807 : Nat))
 (needS (Nat.ble (List.length (Row.nm (rowOf op) ++ (32 : UInt8) :: (114 : UInt8) :: txt a) + List.length ((44 : UInt8) :: (32 : UInt8) :: (114 : UInt8) :: txt b)) (9223372036854775807 : Nat))
 (needS (Nat.ble ((2 : Nat) + List.length ((114 : UInt8) :: txt c)) (9223372036854775807 : Nat))
 (needS
 (Nat.ble
 (List.length (Row.nm (rowOf op) ++ (32 : UInt8) :: (114 : UInt8) :: txt a ++ (44 : UInt8) :: (32 : UInt8) :: (114 : UInt8) :: txt b) +
 List.length ((44 : UInt8) :: (32 : UInt8) :: (114 : UInt8) :: txt c))
 (9223372036854775807 : Nat))
 (needS (Nat.ble ((2 : Nat) + List.length (txt n)) (9223372036854775807 : Nat))
 (needS
 (Nat.ble
 (List.length (Row.nm (rowOf op) ++ (32 : UInt8) :: (114 : UInt8) :: txt a ++ (44 : UInt8) :: (32 : UInt8) :: (114 : UInt8) :: txt b ++ (44 : UInt8) :: (32 : UInt8) :: (114 : UInt8) :: txt c) +
 List.length ((44 : UInt8) :: (32 : UInt8) :: txt n))
 (9223372036854775807 : Nat))
 (Q
 (IV.str
 (Row.nm (rowOf op) ++ (32 : UInt8) :: (114 : UInt8) :: txt a ++ (44 : UInt8) :: (32 : UInt8) :: (114 : UInt8) :: txt b ++ (44 : UInt8) :: (32 : UInt8) :: (114 : UInt8) :: txt c ++
 (44 : UInt8) :: (32 : UInt8) :: txt n))
 h)))))))))
 (brS (Row.fm (rowOf op) == (5 : Int))
 (((-9223372036854775808 : Int) ≤ n ∧ n ≤ (9223372036854775807 : Int)) ∧
 needS (Nat.ble ((1 : Nat) + List.length ((114 : UInt8) :: txt a)) (9223372036854775807 : Nat))
 (needS (Nat.ble (List.length (Row.nm (rowOf op)) + List.length ((32 : UInt8) :: (114 : UInt8) :: txt a)) (9223372036854775807 : Nat))
 (needS (Nat.ble ((2 : Nat) + List.length ((114 : UInt8) :: txt b)) (9223372036854775807 : Nat))
 (needS (Nat.ble (List.length (Row.nm (rowOf op) ++ (32 : UInt8) :: (114 : UInt8) :: txt a) + List.length ((44 : UInt8) :: (32 : UInt8) :: (114 : UInt8) :: txt b)) (9223372036854775807 : Nat))
 (needS (Nat.ble ((2 : Nat) + List.length ((114 : UInt8) :: txt c)) (9223372036854775807 : Nat))
 (needS
 (Nat.ble
 (List.length (Row.nm (rowOf op) ++ (32 : UInt8) :: (114 : UInt8) :: txt a ++ (44 : UInt8) :: (32 : UInt8) :: (114 : UInt8) :: txt b) +
 List.length ((44 : UInt8) :: (32 : UInt8) :: (114 : UInt8) :: txt c))
 (9223372036854775807 : Nat))
 (needS (Nat.ble ((2 : Nat) + List.length (txt n)) (9223372036854775807 : Nat))
 (needS
 (Nat.ble
 (List.length (Row.nm (rowOf op) ++ (32 : UInt8) :: (114 : UInt8) :: txt a ++ (44 : UInt8) :: (32 : UInt8) :: (114 : UInt8) :: txt b ++ (44 : UInt8) :: (32 : UInt8) :: (114 : UInt8) :: txt c) +
 List.length ((44 : UInt8) :: (32 : UInt8) :: txt n))
 (9223372036854775807 : Nat))
 (Q
 (IV.str
 (Row.nm (rowOf op) ++ (32 : UInt8) :: (114 : UInt8) :: txt a ++ (44 : UInt8) :: (32 : UInt8) :: (114 : UInt8) :: txt b ++ (44 : UInt8) :: (32 : UInt8) :: (114 : UInt8) :: txt c ++
 (44 : UInt8) :: (32 : UInt8) :: txt n))
 h)))))))))
 (brS (Row.fm (rowOf op) == (6 : Int))
 (((-9223372036854775808 : Int) ≤ n ∧ n ≤ (9223372036854775807 : Int)) ∧
 needS (Nat.ble ((1 : Nat) + List.length ((114 : UInt8) :: txt a)) (9223372036854775807 : Nat))
 (needS (Nat.ble (List.length (Row.nm (rowOf op)) + List.length ((32 : UInt8) :: (114 : UInt8) :: txt a)) (9223372036854775807 : Nat))
 (needS (Nat.ble ((2 : Nat) + List.length ((114 : UInt8) :: txt b)) (9223372036854775807 : Nat))
 (needS (Nat.ble (List.length (Row.nm (rowOf op) ++ (32 : UInt8) :: (114 : UInt8) :: txt a) + List.length ((44 : UInt8) :: (32 : UInt8) :: (114 : UInt8) :: txt b)) (9223372036854775807 : Nat))
 (needS (Nat.ble ((2 : Nat) + List.length ((114 : UInt8) :: txt c)) (9223372036854775807 : Nat))
 (needS
 (Nat.ble
 (List.length (Row.nm (rowOf op) ++ (32 : UInt8) :: (114 : UInt8) :: txt a ++ (44 : UInt8) :: (32 : UInt8) :: (114 : UInt8) :: txt b) +
 List.length ((44 : UInt8) :: (32 : UInt8) :: (114 : UInt8) :: txt c))
 (9223372036854775807 : Nat))
 (needS (Nat.ble ((2 : Nat) + List.length (txt n)) (9223372036854775807 : Nat))
 (needS
 (Nat.ble
 (List.length
 (Row.nm (rowOf op) ++ (32 : UInt8) :: (114 : UInt8) :: txt a ++ (44 : UInt8) :: (32 : UInt8) :: (114 : UInt8) :: txt b ++ (44 : UInt8) :: (32 : UInt8) :: (114 : UInt8) :: txt c) +
 List.length ((44 : UInt8) :: (32 : UInt8) :: txt n))
 (9223372036854775807 : Nat))
 (Q
 (IV.str
 (Row.nm (rowOf op) ++ (32 : UInt8) :: (114 : UInt8) :: txt a ++ (44 : UInt8) :: (32 : UInt8) :: (114 : UInt8) :: txt b ++ (44 : UInt8) :: (32 : UInt8) :: (114 : UInt8) :: txt c ++
 (44 : UInt8) :: (32 : UInt8) :: txt n))
 h)))))))))
 (brS (Row.fm (rowOf op) == (7 : Int))
 (((-9223372036854775808 : Int) ≤ n ∧ n ≤ (9223372036854775807 : Int)) ∧
 needS (Nat.ble ((1 : Nat) + List.length ((114 : UInt8) :: txt a)) (9223372036854775807 : Nat))
 (needS (Nat.ble (List.length (Row.nm (rowOf op)) + List.length ((32 : UInt8) :: (114 : UInt8) :: txt a)) (9223372036854775807 : Nat))
 (needS (Nat.ble ((2 : Nat) + List.length ((114 : UInt8) :: txt b)) (9223372036854775807 : Nat))
 (needS (Nat.ble (List.length (Row.nm (rowOf op) ++ (32 : UInt8) :: (114 : UInt8) :: txt a) + List.length ((44 : UInt8) :: (32 : UInt8) :: (114 : UInt8) :: txt b)) (9223372036854775807 : Nat))
 (needS (Nat.ble ((2 : Nat) + List.length ((114 : UInt8) :: txt c)) (9223372036854775807 : Nat))
 (needS
 (Nat.ble
 (List.length (Row.nm (rowOf op) ++ (32 : UInt8) :: (114 : UInt8) :: txt a ++ (44 : UInt8) :: (32 : UInt8) :: (114 : UInt8) :: txt b) +
 List.length ((44 : UInt8) :: (32 : UInt8) :: (114 : UInt8) :: txt c))
 (9223372036854775807 : Nat))
 (needS (Nat.ble ((2 : Nat) + List.length (txt n)) (9223372036854775807 : Nat))
 (needS
 (Nat.ble
 (List.length
 (Row.nm (rowOf op) ++ (32 : UInt8) :: (114 : UInt8) :: txt a ++ (44 : UInt8) :: (32 : UInt8) :: (114 : UInt8) :: txt b ++ (44 : UInt8) :: (32 : UInt8) :: (114 : UInt8) :: txt c) +
 List.length ((44 : UInt8) :: (32 : UInt8) :: txt n))
 (9223372036854775807 : Nat))
 (Q
 (IV.str
 (Row.nm (rowOf op) ++ (32 : UInt8) :: (114 : UInt8) :: txt a ++ (44 : UInt8) :: (32 : UInt8) :: (114 : UInt8) :: txt b ++ (44 : UInt8) :: (32 : UInt8) :: (114 : UInt8) :: txt c ++
 (44 : UInt8) :: (32 : UInt8) :: txt n))
 h)))))))))
 (needS (Nat.ble ((1 : Nat) + List.length ((114 : UInt8) :: txt a)) (9223372036854775807 : Nat))
 (needS (Nat.ble (List.length (Row.nm (rowOf op)) + List.length ((32 : UInt8) :: (114 : UInt8) :: txt a)) (9223372036854775807 : Nat))
 (needS (Nat.ble ((2 : Nat) + List.length ((114 : UInt8) :: txt b)) (9223372036854775807 : Nat))
 (needS (Nat.ble (List.length (Row.nm (rowOf op) ++ (32 : UInt8) :: (114 : UInt8) :: txt a) + List.length ((44 : UInt8) :: (32 : UInt8) :: (114 : UInt8) :: txt b)) (9223372036854775807 : Nat))
 (needS (Nat.ble ((2 : Nat) + List.length ((114 : UInt8) :: txt c)) (9223372036854775807 : Nat))
 (needS
 (Nat.ble
 (List.length (Row.nm (rowOf op) ++ (32 : UInt8) :: (114 : UInt8) :: txt a ++ (44 : UInt8) :: (32 : UInt8) :: (114 : UInt8) :: txt b) +
 List.length ((44 : UInt8) :: (32 : UInt8) :: (114 : UInt8) :: txt c))
 (9223372036854775807 : Nat))
 (Q (IV.str (Row.nm (rowOf op) ++ (32 : UInt8) :: (114 : UInt8) :: txt a ++ (44 : UInt8) :: (32 : UInt8) :: (114 : UInt8) :: txt b ++ (44 : UInt8) :: (32 : UInt8) :: (114 : UInt8) :: txt c))
 h))))))))))))
 (brS (Row.fm (rowOf op) == (8 : Int))
 (((-9223372036854775808 : Int) ≤ n ∧ n ≤ (9223372036854775807 : Int)) ∧
 needS (Nat.ble ((1 : Nat) + List.length ((114 : UInt8) :: txt a)) (9223372036854775807 : Nat))
 (needS (Nat.ble (List.length (Row.nm (rowOf op)) + List.length ((32 : UInt8) :: (114 : UInt8) :: txt a)) (9223372036854775807 : Nat))
 (needS (Nat.ble ((2 : Nat) + List.length ((114 : UInt8) :: txt b)) (9223372036854775807 : Nat))
 (needS (Nat.ble (List.length (Row.nm (rowOf op) ++ (32 : UInt8) :: (114 : UInt8) :: txt a) + List.length ((44 : UInt8) :: (32 : UInt8) :: (114 : UInt8) :: txt b)) (9223372036854775807 : Nat))
 (needS (Nat.ble ((2 : Nat) + List.length (txt n)) (9223372036854775807 : Nat))
 (needS
 (Nat.ble (List.length (Row.nm (rowOf op) ++ (32 : UInt8) :: (114 : UInt8) :: txt a ++ (44 : UInt8) :: (32 : UInt8) :: (114 : UInt8) :: txt b) + List.length ((44 : UInt8) :: (32 : UInt8) :: txt n))
 (9223372036854775807 : Nat))
 (Q (IV.str (Row.nm (rowOf op) ++ (32 : UInt8) :: (114 : UInt8) :: txt a ++ (44 : UInt8) :: (32 : UInt8) :: (114 : UInt8) :: txt b ++ (44 : UInt8) :: (32 : UInt8) :: txt n)) h)))))))
 (brS (Row.fm (rowOf op) == (5 : Int))
 (((-9223372036854775808 : Int) ≤ n ∧ n ≤ (9223372036854775807 : Int)) ∧
 needS (Nat.ble ((1 : Nat) + List.length ((114 : UInt8) :: txt a)) (9223372036854775807 : Nat))
 (needS (Nat.ble (List.length (Row.nm (rowOf op)) + List.length ((32 : UInt8) :: (114 : UInt8) :: txt a)) (9223372036854775807 : Nat))
 (needS (Nat.ble ((2 : Nat) + List.length ((114 : UInt8) :: txt b)) (9223372036854775807 : Nat))
 (needS (Nat.ble (List.length (Row.nm (rowOf op) ++ (32 : UInt8) :: (114 : UInt8) :: txt a) + List.length ((44 : UInt8) :: (32 : UInt8) :: (114 : UInt8) :: txt b)) (9223372036854775807 : Nat))
 (needS (Nat.ble ((2 : Nat) + List.length (txt n)) (9223372036854775807 : Nat))
 (needS
 (Nat.ble (List.length (Row.nm (rowOf op) ++ (32 : UInt8) :: (114 : UInt8) :: txt a ++ (44 : UInt8) :: (32 : UInt8) :: (114 : UInt8) :: txt b) + List.length ((44 : UInt8) :: (32 : UInt8) :: txt n))
 (9223372036854775807 : Nat))
 (Q (IV.str (Row.nm (rowOf op) ++ (32 : UInt8) :: (114 : UInt8) :: txt a ++ (44 : UInt8) :: (32 : UInt8) :: (114 : UInt8) :: txt b ++ (44 : UInt8) :: (32 : UInt8) :: txt n)) h)))))))
 (brS (Row.fm (rowOf op) == (6 : Int))
 (((-9223372036854775808 : Int) ≤ n ∧ n ≤ (9223372036854775807 : Int)) ∧
 needS (Nat.ble ((1 : Nat) + List.length ((114 : UInt8) :: txt a)) (9223372036854775807 : Nat))
 (needS (Nat.ble (List.length (Row.nm (rowOf op)) + List.length ((32 : UInt8) :: (114 : UInt8) :: txt a)) (9223372036854775807 : Nat))
 (needS (Nat.ble ((2 : Nat) + List.length ((114 : UInt8) :: txt b)) (9223372036854775807 : Nat))
 (needS (Nat.ble (List.length (Row.nm (rowOf op) ++ (32 : UInt8) :: (114 : UInt8) :: txt a) + List.length ((44 : UInt8) :: (32 : UInt8) :: (114 : UInt8) :: txt b)) (9223372036854775807 : Nat))
 (needS (Nat.ble ((2 : Nat) + List.length (txt n)) (9223372036854775807 : Nat))
 (needS
 (Nat.ble (List.length (Row.nm (rowOf op) ++ (32 : UInt8) :: (114 : UInt8) :: txt a ++ (44 : UInt8) :: (32 : UInt8) :: (114 : UInt8) :: txt b) + List.length ((44 : UInt8) :: (32 : UInt8) :: txt n))
 (9223372036854775807 : Nat))
 (Q (IV.str (Row.nm (rowOf op) ++ (32 : UInt8) :: (114 : UInt8) :: txt a ++ (44 : UInt8) :: (32 : UInt8) :: (114 : UInt8) :: txt b ++ (44 : UInt8) :: (32 : UInt8) :: txt n)) h)))))))
 (brS (Row.fm (rowOf op) == (7 : Int))
 (((-9223372036854775808 : Int) ≤ n ∧ n ≤ (9223372036854775807 : Int)) ∧
 needS (Nat.ble ((1 : Nat) + List.length ((114 : UInt8) :: txt a)) (9223372036854775807 : Nat))
 (needS (Nat.ble (List.length (Row.nm (rowOf op)) + List.length ((32 : UInt8) :: (114 : UInt8) :: txt a)) (9223372036854775807 : Nat))
 (needS (Nat.ble ((2 : Nat) + List.length ((114 : UInt8) :: txt b)) (9223372036854775807 : Nat))
 (needS (Nat.ble (List.length (Row.nm (rowOf op) ++ (32 : UInt8) :: (114 : UInt8) :: txt a) + List.length ((44 : UInt8) :: (32 : UInt8) :: (114 : UInt8) :: txt b)) (9223372036854775807 : Nat))
 (needS (Nat.ble ((2 : Nat) + List.length (txt n)) (9223372036854775807 : Nat))
 (needS
 (Nat.ble (List.length (Row.nm (rowOf op) ++ (32 : UInt8) :: (114 : UInt8) :: txt a ++ (44 : UInt8) :: (32 : UInt8) :: (114 : UInt8) :: txt b) + List.length ((44 : UInt8) :: (32 : UInt8) :: txt n))
 (9223372036854775807 : Nat))
 (Q (IV.str (Row.nm (rowOf op) ++ (32 : UInt8) :: (114 : UInt8) :: txt a ++ (44 : UInt8) :: (32 : UInt8) :: (114 : UInt8) :: txt b ++ (44 : UInt8) :: (32 : UInt8) :: txt n)) h)))))))
 (needS (Nat.ble ((1 : Nat) + List.length ((114 : UInt8) :: txt a)) (9223372036854775807 : Nat))
 (needS (Nat.ble (List.length (Row.nm (rowOf op)) + List.length ((32 : UInt8) :: (114 : UInt8) :: txt a)) (9223372036854775807 : Nat))
 (needS (Nat.ble ((2 : Nat) + List.length ((114 : UInt8) :: txt b)) (9223372036854775807 : Nat))
 (needS (Nat.ble (List.length (Row.nm (rowOf op) ++ (32 : UInt8) :: (114 : UInt8) :: txt a) + List.length ((44 : UInt8) :: (32 : UInt8) :: (114 : UInt8) :: txt b)) (9223372036854775807 : Nat))
 (Q (IV.str (Row.nm (rowOf op) ++ (32 : UInt8) :: (114 : UInt8) :: txt a ++ (44 : UInt8) :: (32 : UInt8) :: (114 : UInt8) :: txt b)) h)))))))))))
 (brS (Row.fm (rowOf op) == (4 : Int))
 (((-9223372036854775808 : Int) ≤ b ∧ b ≤ (9223372036854775807 : Int)) ∧
 needS (Nat.ble ((1 : Nat) + List.length (txt b)) (9223372036854775807 : Nat))
 (brS (Row.fm (rowOf op) == (4 : Int))
 (((-9223372036854775808 : Int) ≤ c ∧ c ≤ (9223372036854775807 : Int)) ∧
 needS (Nat.ble ((1 : Nat) + List.length (txt c)) (9223372036854775807 : Nat))
 (brS (Row.fm (rowOf op) == (8 : Int))
 (((-9223372036854775808 : Int) ≤ n ∧ n ≤ (9223372036854775807 : Int)) ∧
 needS (Nat.ble ((1 : Nat) + List.length ((114 : UInt8) :: txt a)) (9223372036854775807 : Nat))
 (needS (Nat.ble (List.length (Row.nm (rowOf op)) + List.length ((32 : UInt8) :: (114 : UInt8) :: txt a)) (9223372036854775807 : Nat))
 (needS (Nat.ble ((2 : Nat) + List.length ((114 : UInt8) :: txt b)) (9223372036854775807 : Nat))
 (needS (Nat.ble (List.length (Row.nm (rowOf op) ++ (32 : UInt8) :: (114 : UInt8) :: txt a) + List.length ((44 : UInt8) :: (32 : UInt8) :: (114 : UInt8) :: txt b)) (9223372036854775807 : Nat))
 (needS (Nat.ble ((2 : Nat) + List.length ((114 : UInt8) :: txt c)) (9223372036854775807 : Nat))
 (needS
 (Nat.ble
 (List.length (Row.nm (rowOf op) ++ (32 : UInt8) :: (114 : UInt8) :: txt a ++ (44 : UInt8) :: (32 : UInt8) :: (114 : UInt8) :: txt b) +
 List.length ((44 : UInt8) :: (32 : UInt8) :: (114 : UInt8) :: txt c))
 (9223372036854775807 : Nat))
 (needS (Nat.ble ((2 : Nat) + List.length (txt n)) (9223372036854775807 : Nat))
 (needS
 (Nat.ble
 (List.length (Row.nm (rowOf op) ++ (32 : UInt8) :: (114 : UInt8) :: txt a ++ (44 : UInt8) :: (32 : UInt8) :: (114 : UInt8) :: txt b ++ (44 : UInt8) :: (32 : UInt8) :: (114 : UInt8) :: txt c) +
 List.length ((44 : UInt8) :: (32 : UInt8) :: txt n))
 (9223372036854775807 : Nat))
 (Q
 (IV.str
 (Row.nm (rowOf op) ++ (32 : UInt8) :: (114 : UInt8) :: txt a ++ (44 : UInt8) :: (32 : UInt8) :: (114 : UInt8) :: txt b ++ (44 : UInt8) :: (32 : UInt8) :: (114 : UInt8) :: txt c ++
 (44 : UInt8) :: (32 : UInt8) :: txt n))
 h)))))))))
 (brS (Row.fm (rowOf op) == (5 : Int))
 (((-9223372036854775808 : Int) ≤ n ∧ n ≤ (9223372036854775807 : Int)) ∧
 needS (Nat.ble ((1 : Nat) + List.length ((114 : UInt8) :: txt a)) (9223372036854775807 : Nat))
 (needS (Nat.ble (List.length (Row.nm (rowOf op)) + List.length ((32 : UInt8) :: (114 : UInt8) :: txt a)) (9223372036854775807 : Nat))
 (needS (Nat.ble ((2 : Nat) + List.length ((114 : UInt8) :: txt b)) (9223372036854775807 : Nat))
 (needS (Nat.ble (List.length (Row.nm (rowOf op) ++ (32 : UInt8) :: (114 : UInt8) :: txt a) + List.length ((44 : UInt8) :: (32 : UInt8) :: (114 : UInt8) :: txt b)) (9223372036854775807 : Nat))
 (needS (Nat.ble ((2 : Nat) + List.length ((114 : UInt8) :: txt c)) (9223372036854775807 : Nat))
 (needS
 (Nat.ble
 (List.length (Row.nm (rowOf op) ++ (32 : UInt8) :: (114 : UInt8) :: txt a ++ (44 : UInt8) :: (32 : UInt8) :: (114 : UInt8) :: txt b) +
 List.length ((44 : UInt8) :: (32 : UInt8) :: (114 : UInt8) :: txt c))
 (9223372036854775807 : Nat))
 (needS (Nat.ble ((2 : Nat) + List.length (txt n)) (9223372036854775807 : Nat))
 (needS
 (Nat.ble
 (List.length
 (Row.nm (rowOf op) ++ (32 : UInt8) :: (114 : UInt8) :: txt a ++ (44 : UInt8) :: (32 : UInt8) :: (114 : UInt8) :: txt b ++ (44 : UInt8) :: (32 : UInt8) :: (114 : UInt8) :: txt c) +
 List.length ((44 : UInt8) :: (32 : UInt8) :: txt n))
 (9223372036854775807 : Nat))
 (Q
 (IV.str
 (Row.nm (rowOf op) ++ (32 : UInt8) :: (114 : UInt8) :: txt a ++ (44 : UInt8) :: (32 : UInt8) :: (114 : UInt8) :: txt b ++ (44 : UInt8) :: (32 : UInt8) :: (114 : UInt8) :: txt c ++
 (44 : UInt8) :: (32 : UInt8) :: txt n))
 h)))))))))
 (brS (Row.fm (rowOf op) == (6 : Int))
 (((-9223372036854775808 : Int) ≤ n ∧ n ≤ (9223372036854775807 : Int)) ∧
 needS (Nat.ble ((1 : Nat) + List.length ((114 : UInt8) :: txt a)) (9223372036854775807 : Nat))
 (needS (Nat.ble (List.length (Row.nm (rowOf op)) + List.length ((32 : UInt8) :: (114 : UInt8) :: txt a)) (9223372036854775807 : Nat))
 (needS (Nat.ble ((2 : Nat) + List.length ((114 : UInt8) :: txt b)) (9223372036854775807 : Nat))
 (needS (Nat.ble (List.length (Row.nm (rowOf op) ++ (32 : UInt8) :: (114 : UInt8) :: txt a) + List.length ((44 : UInt8) :: (32 : UInt8) :: (114 : UInt8) :: txt b)) (9223372036854775807 : Nat))
 (needS (Nat.ble ((2 : Nat) + List.length ((114 : UInt8) :: txt c)) (9223372036854775807 : Nat))
 (needS
 (Nat.ble
 (List.length (Row.nm (rowOf op) ++ (32 : UInt8) :: (114 : UInt8) :: txt a ++ (44 : UInt8) :: (32 : UInt8) :: (114 : UInt8) :: txt b) +
 List.length ((44 : UInt8) :: (32 : UInt8) :: (114 : UInt8) :: txt c))
 (9223372036854775807 : Nat))
 (needS (Nat.ble ((2 : Nat) + List.length (txt n)) (9223372036854775807 : Nat))
 (needS
 (Nat.ble
 (List.length
 (Row.nm (rowOf op) ++ (32 : UInt8) :: (114 : UInt8) :: txt a ++ (44 : UInt8) :: (32 : UInt8) :: (114 : UInt8) :: txt b ++ (44 : UInt8) :: (32 : UInt8) :: (114 : UInt8) :: txt c) +
 List.length ((44 : UInt8) :: (32 : UInt8) :: txt n))
 (9223372036854775807 : Nat))
 (Q
 (IV.str
 (Row.nm (rowOf op) ++ (32 : UInt8) :: (114 : UInt8) :: txt a ++ (44 : UInt8) :: (32 : UInt8) :: (114 : UInt8) :: txt b ++ (44 : UInt8) :: (32 : UInt8) :: (114 : UInt8) :: txt c ++
 (44 : UInt8) :: (32 : UInt8) :: txt n))
 h)))))))))
 (brS (Row.fm (rowOf op) == (7 : Int))
 (((-9223372036854775808 : Int) ≤ n ∧ n ≤ (9223372036854775807 : Int)) ∧
 needS (Nat.ble ((1 : Nat) + List.length ((114 : UInt8) :: txt a)) (9223372036854775807 : Nat))
 (needS (Nat.ble (List.length (Row.nm (rowOf op)) + List.length ((32 : UInt8) :: (114 : UInt8) :: txt a)) (9223372036854775807 : Nat))
 (needS (Nat.ble ((2 : Nat) + List.length ((114 : UInt8) :: txt b)) (9223372036854775807 : Nat))
 (needS (Nat.ble (List.length (Row.nm (rowOf op) ++ (32 : UInt8) :: (114 : UInt8) :: txt a) + List.length ((44 : UInt8) :: (32 : UInt8) :: (114 : UInt8) :: txt b)) (9223372036854775807 : Nat))
 (needS (Nat.ble ((2 : Nat) + List.length ((114 : UInt8) :: txt c)) (9223372036854775807 : Nat))
 (needS
 (Nat.ble
 (List.length (Row.nm (rowOf op) ++ (32 : UInt8) :: (114 : UInt8) :: txt a ++ (44 : UInt8) :: (32 : UInt8) :: (114 : UInt8) :: txt b) +
 List.length ((44 : UInt8) :: (32 : UInt8) :: (114 : UInt8) :: txt c))
 (9223372036854775807 : Nat))
 (needS (Nat.ble ((2 : Nat) + List.length (txt n)) (9223372036854775807 : Nat))
 (needS
 (Nat.ble
 (List.length
 (Row.nm (rowOf op) ++ (32 : UInt8) :: (114 : UInt8) :: txt a ++ (44 : UInt8) :: (32 : UInt8) :: (114 : UInt8) :: txt b ++ (44 : UInt8) :: (32 : UInt8) :: (114 : UInt8) :: txt c) +
 List.length ((44 : UInt8) :: (32 : UInt8) :: txt n))
 (9223372036854775807 : Nat))
 (Q
 (IV.str
 (Row.nm (rowOf op) ++ (32 : UInt8) :: (114 : UInt8) :: txt a ++ (44 : UInt8) :: (32 : UInt8) :: (114 : UInt8) :: txt b ++ (44 : UInt8) :: (32 : UInt8) :: (114 : UInt8) :: txt c ++
 (44 : UInt8) :: (32 : UInt8) :: txt n))
 h)))))))))
 (needS (Nat.ble ((1 : Nat) + List.length ((114 : UInt8) :: txt a)) (9223372036854775807 : Nat))
 (needS (Nat.ble (List.length (Row.nm (rowOf op)) + List.length ((32 : UInt8) :: (114 : UInt8) :: txt a)) (9223372036854775807 : Nat))
 (needS (Nat.ble ((2 : Nat) + List.length ((114 : UInt8) :: txt b)) (9223372036854775807 : Nat))
 (needS (Nat.ble (List.length (Row.nm (rowOf op) ++ (32 : UInt8) :: (114 : UInt8) :: txt a) + List.length ((44 : UInt8) :: (32 : UInt8) :: (114 : UInt8) :: txt b)) (9223372036854775807 : Nat))
 (needS (Nat.ble ((2 : Nat) + List.length ((114 : UInt8) :: txt c)) (9223372036854775807 : Nat))
 (needS
 (Nat.ble
 (List.length (Row.nm (rowOf op) ++ (32 : UInt8) :: (114 : UInt8) :: txt a ++ (44 : UInt8) :: (32 : UInt8) :: (114 : UInt8) :: txt b) +
 List.length ((44 : UInt8) :: (32 : UInt8) :: (114 : UInt8) :: txt c))
 (9223372036854775807 : Nat))
 (Q (IV.str (Row.nm (rowOf op) ++ (32 : UInt8) :: (114 : UInt8) :: txt a ++ (44 : UInt8) :: (32 : UInt8) :: (114 : UInt8) :: txt b ++ (44 : UInt8) :: (32 : UInt8) :: (114 : UInt8) :: txt c))
 h))))))))))))
 (brS (Row.fm (rowOf op) == (8 : Int))
 (((-9223372036854775808 : Int) ≤ n ∧ n ≤ (9223372036854775807 : Int)) ∧
 needS (Nat.ble ((1 : Nat) + List.length ((114 : UInt8) :: txt a)) (9223372036854775807 : Nat))
 (needS (Nat.ble (List.length (Row.nm (rowOf op)) + List.length ((32 : UInt8) :: (114 : UInt8) :: txt a)) (9223372036854775807 : Nat))
 (needS (Nat.ble ((2 : Nat) + List.length ((114 : UInt8) :: txt b)) (9223372036854775807 : Nat))
 (needS (Nat.ble (List.length (Row.nm (rowOf op) ++ (32 : UInt8) :: (114 : UInt8) :: txt a) + List.length ((44 : UInt8) :: (32 : UInt8) :: (114 : UInt8) :: txt b)) (9223372036854775807 : Nat))
 (needS (Nat.ble ((2 : Nat) + List.length (txt n)) (9223372036854775807 : Nat))
 (needS
 (Nat.ble (List.length (Row.nm (rowOf op) ++ (32 : UInt8) :: (114 : UInt8) :: txt a ++ (44 : UInt8) :: (32 : UInt8) :: (114 : UInt8) :: txt b) + List.length ((44 : UInt8) :: (32 : UInt8) :: txt n))
 (9223372036854775807 : Nat))
 (Q (IV.str (Row.nm (rowOf op) ++ (32 : UInt8) :: (114 : UInt8) :: txt a ++ (44 : UInt8) :: (32 : UInt8) :: (114 : UInt8) :: txt b ++ (44 : UInt8) :: (32 : UInt8) :: txt n)) h)))))))
 (brS (Row.fm (rowOf op) == (5 : Int))
 (((-9223372036854775808 : Int) ≤ n ∧ n ≤ (9223372036854775807 : Int)) ∧
 needS (Nat.ble ((1 : Nat) + List.length ((114 : UInt8) :: txt a)) (9223372036854775807 : Nat))
 (needS (Nat.ble (List.length (Row.nm (rowOf op)) + List.length ((32 : UInt8) :: (114 : UInt8) :: txt a)) (9223372036854775807 : Nat))
 (needS (Nat.ble ((2 : Nat) + List.length ((114 : UInt8) :: txt b)) (9223372036854775807 : Nat))
 (needS (Nat.ble (List.length (Row.nm (rowOf op) ++ (32 : UInt8) :: (114 : UInt8) :: txt a) + List.length ((44 : UInt8) :: (32 : UInt8) :: (114 : UInt8) :: txt b)) (9223372036854775807 : Nat))
 (needS (Nat.ble ((2 : Nat) + List.length (txt n)) (9223372036854775807 : Nat))
 (needS
 (Nat.ble (List.length (Row.nm (rowOf op) ++ (32 : UInt8) :: (114 : UInt8) :: txt a ++ (44 : UInt8) :: (32 : UInt8) :: (114 : UInt8) :: txt b) + List.length ((44 : UInt8) :: (32 : UInt8) :: txt n))
 (9223372036854775807 : Nat))
 (Q (IV.str (Row.nm (rowOf op) ++ (32 : UInt8) :: (114 : UInt8) :: txt a ++ (44 : UInt8) :: (32 : UInt8) :: (114 : UInt8) :: txt b ++ (44 : UInt8) :: (32 : UInt8) :: txt n)) h)))))))
 (brS (Row.fm (rowOf op) == (6 : Int))
 (((-9223372036854775808 : Int) ≤ n ∧ n ≤ (9223372036854775807 : Int)) ∧
 needS (Nat.ble ((1 : Nat) + List.length ((114 : UInt8) :: txt a)) (9223372036854775807 : Nat))
 (needS (Nat.ble (List.length (Row.nm (rowOf op)) + List.length ((32 : UInt8) :: (114 : UInt8) :: txt a)) (9223372036854775807 : Nat))
 (needS (Nat.ble ((2 : Nat) + List.length ((114 : UInt8) :: txt b)) (9223372036854775807 : Nat))
 (needS (Nat.ble (List.length (Row.nm (rowOf op) ++ (32 : UInt8) :: (114 : UInt8) :: txt a) + List.length ((44 : UInt8) :: (32 : UInt8) :: (114 : UInt8) :: txt b)) (9223372036854775807 : Nat))
 (needS (Nat.ble ((2 : Nat) + List.length (txt n)) (9223372036854775807 : Nat))
 (needS
 (Nat.ble (List.length (Row.nm (rowOf op) ++ (32 : UInt8) :: (114 : UInt8) :: txt a ++ (44 : UInt8) :: (32 : UInt8) :: (114 : UInt8) :: txt b) + List.length ((44 : UInt8) :: (32 : UInt8) :: txt n))
 (9223372036854775807 : Nat))
 (Q (IV.str (Row.nm (rowOf op) ++ (32 : UInt8) :: (114 : UInt8) :: txt a ++ (44 : UInt8) :: (32 : UInt8) :: (114 : UInt8) :: txt b ++ (44 : UInt8) :: (32 : UInt8) :: txt n)) h)))))))
 (brS (Row.fm (rowOf op) == (7 : Int))
 (((-9223372036854775808 : Int) ≤ n ∧ n ≤ (9223372036854775807 : Int)) ∧
 needS (Nat.ble ((1 : Nat) + List.length ((114 : UInt8) :: txt a)) (9223372036854775807 : Nat))
 (needS (Nat.ble (List.length (Row.nm (rowOf op)) + List.length ((32 : UInt8) :: (114 : UInt8) :: txt a)) (9223372036854775807 : Nat))
 (needS (Nat.ble ((2 : Nat) + List.length ((114 : UInt8) :: txt b)) (9223372036854775807 : Nat))
 (needS (Nat.ble (List.length (Row.nm (rowOf op) ++ (32 : UInt8) :: (114 : UInt8) :: txt a) + List.length ((44 : UInt8) :: (32 : UInt8) :: (114 : UInt8) :: txt b)) (9223372036854775807 : Nat))
 (needS (Nat.ble ((2 : Nat) + List.length (txt n)) (9223372036854775807 : Nat))
 (needS
 (Nat.ble (List.length (Row.nm (rowOf op) ++ (32 : UInt8) :: (114 : UInt8) :: txt a ++ (44 : UInt8) :: (32 : UInt8) :: (114 : UInt8) :: txt b) + List.length ((44 : UInt8) :: (32 : UInt8) :: txt n))
 (9223372036854775807 : Nat))
 (Q (IV.str (Row.nm (rowOf op) ++ (32 : UInt8) :: (114 : UInt8) :: txt a ++ (44 : UInt8) :: (32 : UInt8) :: (114 : UInt8) :: txt b ++ (44 : UInt8) :: (32 : UInt8) :: txt n)) h)))))))
 (needS (Nat.ble ((1 : Nat) + List.length ((114 : UInt8) :: txt a)) (9223372036854775807 : Nat))
 (needS (Nat.ble (List.length (Row.nm (rowOf op)) + List.length ((32 : UInt8) :: (114 : UInt8) :: txt a)) (9223372036854775807 : Nat))
 (needS (Nat.ble ((2 : Nat) + List.length ((114 : UInt8) :: txt b)) (9223372036854775807 : Nat))
 (needS (Nat.ble (List.length (Row.nm (rowOf op) ++ (32 : UInt8) :: (114 : UInt8) :: txt a) + List.length ((44 : UInt8) :: (32 : UInt8) :: (114 : UInt8) :: txt b)) (9223372036854775807 : Nat))
 (Q (IV.str (Row.nm (rowOf op) ++ (32 : UInt8) :: (114 : UInt8) :: txt a ++ (44 : UInt8) :: (32 : UInt8) :: (114 : UInt8) :: txt b)) h)))))))))))
 (brS (Row.fm (rowOf op) == (7 : Int))
 (((-9223372036854775808 : Int) ≤ b ∧ b ≤ (9223372036854775807 : Int)) ∧
 needS (Nat.ble ((1 : Nat) + List.length (txt b)) (9223372036854775807 : Nat))
 (brS (Row.fm (rowOf op) == (4 : Int))
 (((-9223372036854775808 : Int) ≤ c ∧ c ≤ (9223372036854775807 : Int)) ∧
 needS (Nat.ble ((1 : Nat) + List.length (txt c)) (9223372036854775807 : Nat))
 (brS (Row.fm (rowOf op) == (8 : Int))
 (((-9223372036854775808 : Int) ≤ n ∧ n ≤ (9223372036854775807 : Int)) ∧
 needS (Nat.ble ((1 : Nat) + List.length ((114 : UInt8) :: txt a)) (9223372036854775807 : Nat))
 (needS (Nat.ble (List.length (Row.nm (rowOf op)) + List.length ((32 : UInt8) :: (114 : UInt8) :: txt a)) (9223372036854775807 : Nat))
 (needS (Nat.ble ((2 : Nat) + List.length ((114 : UInt8) :: txt b)) (9223372036854775807 : Nat))
 (needS (Nat.ble (List.length (Row.nm (rowOf op) ++ (32 : UInt8) :: (114 : UInt8) :: txt a) + List.length ((44 : UInt8) :: (32 : UInt8) :: (114 : UInt8) :: txt b)) (9223372036854775807 : Nat))
 (needS (Nat.ble ((2 : Nat) + List.length ((114 : UInt8) :: txt c)) (9223372036854775807 : Nat))
 (needS
 (Nat.ble
 (List.length (Row.nm (rowOf op) ++ (32 : UInt8) :: (114 : UInt8) :: txt a ++ (44 : UInt8) :: (32 : UInt8) :: (114 : UInt8) :: txt b) +
 List.length ((44 : UInt8) :: (32 : UInt8) :: (114 : UInt8) :: txt c))
 (9223372036854775807 : Nat))
 (needS (Nat.ble ((2 : Nat) + List.length (txt n)) (9223372036854775807 : Nat))
 (needS
 (Nat.ble
 (List.length
 (Row.nm (rowOf op) ++ (32 : UInt8) :: (114 : UInt8) :: txt a ++ (44 : UInt8) :: (32 : UInt8) :: (114 : UInt8) :: txt b ++ (44 : UInt8) :: (32 : UInt8) :: (114 : UInt8) :: txt c) +
 List.length ((44 : UInt8) :: (32 : UInt8) :: txt n))
 (9223372036854775807 : Nat))
 (Q
 (IV.str
 (Row.nm (rowOf op) ++ (32 : UInt8) :: (114 : UInt8) :: txt a ++ (44 : UInt8) :: (32 : UInt8) :: (114 : UInt8) :: txt b ++ (44 : UInt8) :: (32 : UInt8) :: (114 : UInt8) :: txt c ++
 (44 : UInt8) :: (32 : UInt8) :: txt n))
 h)))))))))
 (brS (Row.fm (rowOf op) == (5 : Int))
 (((-9223372036854775808 : Int) ≤ n ∧ n ≤ (9223372036854775807 : Int)) ∧
 needS (Nat.ble ((1 : Nat) + List.length ((114 : UInt8) :: txt a)) (9223372036854775807 : Nat))
 (needS (Nat.ble (List.length (Row.nm (rowOf op)) + List.length ((32 : UInt8) :: (114 : UInt8) :: txt a)) (9223372036854775807 : Nat))
 (needS (Nat.ble ((2 : Nat) + List.length ((114 : UInt8) :: txt b)) (9223372036854775807 : Nat))
 (needS (Nat.ble (List.length (Row.nm (rowOf op) ++ (32 : UInt8) :: (114 : UInt8) :: txt a) + List.length ((44 : UInt8) :: (32 : UInt8) :: (114 : UInt8) :: txt b)) (9223372036854775807 : Nat))
 (needS (Nat.ble ((2 : Nat) + List.length ((114 : UInt8) :: txt c)) (9223372036854775807 : Nat))
 (needS
 (Nat.ble
 (List.length (Row.nm (rowOf op) ++ (32 : UInt8) :: (114 : UInt8) :: txt a ++ (44 : UInt8) :: (32 : UInt8) :: (114 : UInt8) :: txt b) +
 List.length ((44 : UInt8) :: (32 : UInt8) :: (114 : UInt8) :: txt c))
 (9223372036854775807 : Nat))
 (needS (Nat.ble ((2 : Nat) + List.length (txt n)) (9223372036854775807 : Nat))
 (needS
 (Nat.ble
 (List.length
 (Row.nm (rowOf op) ++ (32 : UInt8) :: (114 : UInt8) :: txt a ++ (44 : UInt8) :: (32 : UInt8) :: (114 : UInt8) :: txt b ++ (44 : UInt8) :: (32 : UInt8) :: (114 : UInt8) :: txt c) +
 List.length ((44 : UInt8) :: (32 : UInt8) :: txt n))
 (9223372036854775807 : Nat))
 (Q
 (IV.str
 (Row.nm (rowOf op) ++ (32 : UInt8) :: (114 : UInt8) :: txt a ++ (44 : UInt8) :: (32 : UInt8) :: (114 : UInt8) :: txt b ++ (44 : UInt8) :: (32 : UInt8) :: (114 : UInt8) :: txt c ++
 (44 : UInt8) :: (32 : UInt8) :: txt n))
 h)))))))))
 (brS (Row.fm (rowOf op) == (6 : Int))
 (((-9223372036854775808 : Int) ≤ n ∧ n ≤ (9223372036854775807 : Int)) ∧
 needS (Nat.ble ((1 : Nat) + List.length ((114 : UInt8) :: txt a)) (9223372036854775807 : Nat))
 (needS (Nat.ble (List.length (Row.nm (rowOf op)) + List.length ((32 : UInt8) :: (114 : UInt8) :: txt a)) (9223372036854775807 : Nat))
 (needS (Nat.ble ((2 : Nat) + List.length ((114 : UInt8) :: txt b)) (9223372036854775807 : Nat))
 (needS (Nat.ble (List.length (Row.nm (rowOf op) ++ (32 : UInt8) :: (114 : UInt8) :: txt a) + List.length ((44 : UInt8) :: (32 : UInt8) :: (114 : UInt8) :: txt b)) (9223372036854775807 : Nat))
 (needS (Nat.ble ((2 : Nat) + List.length ((114 : UInt8) :: txt c)) (9223372036854775807 : Nat))
 (needS
 (Nat.ble
 (List.length (Row.nm (rowOf op) ++ (32 : UInt8) :: (114 : UInt8) :: txt a ++ (44 : UInt8) :: (32 : UInt8) :: (114 : UInt8) :: txt b) +
 List.length ((44 : UInt8) :: (32 : UInt8) :: (114 : UInt8) :: txt c))
 (9223372036854775807 : Nat))
 (needS (Nat.ble ((2 : Nat) + List.length (txt n)) (9223372036854775807 : Nat))
 (needS
 (Nat.ble
 (List.length
 (Row.nm (rowOf op) ++ (32 : UInt8) :: (114 : UInt8) :: txt a ++ (44 : UInt8) :: (32 : UInt8) :: (114 : UInt8) :: txt b ++ (44 : UInt8) :: (32 : UInt8) :: (114 : UInt8) :: txt c) +
 List.length ((44 : UInt8) :: (32 : UInt8) :: txt n))
 (9223372036854775807 : Nat))
 (Q
 (IV.str
 (Row.nm (rowOf op) ++ (32 : UInt8) :: (114 : UInt8) :: txt a ++ (44 : UInt8) :: (32 : UInt8) :: (114 : UInt8) :: txt b ++ (44 : UInt8) :: (32 : UInt8) :: (114 : UInt8) :: txt c ++
 (44 : UInt8) :: (32 : UInt8) :: txt n))
 h)))))))))
 (brS (Row.fm (rowOf op) == (7 : Int))
 (((-9223372036854775808 : Int) ≤ n ∧ n ≤ (9223372036854775807 : Int)) ∧
 needS (Nat.ble ((1 : Nat) + List.length ((114 : UInt8) :: txt a)) (9223372036854775807 : Nat))
 (needS (Nat.ble (List.length (Row.nm (rowOf op)) + List.length ((32 : UInt8) :: (114 : UInt8) :: txt a)) (9223372036854775807 : Nat))
 (needS (Nat.ble ((2 : Nat) + List.length ((114 : UInt8) :: txt b)) (9223372036854775807 : Nat))
 (needS (Nat.ble (List.length (Row.nm (rowOf op) ++ (32 : UInt8) :: (114 : UInt8) :: txt a) + List.length ((44 : UInt8) :: (32 : UInt8) :: (114 : UInt8) :: txt b)) (9223372036854775807 : Nat))
 (needS (Nat.ble ((2 : Nat) + List.length ((114 : UInt8) :: txt c)) (9223372036854775807 : Nat))
 (needS
 (Nat.ble
 (List.length (Row.nm (rowOf op) ++ (32 : UInt8) :: (114 : UInt8) :: txt a ++ (44 : UInt8) :: (32 : UInt8) :: (114 : UInt8) :: txt b) +
 List.length ((44 : UInt8) :: (32 : UInt8) :: (114 : UInt8) :: txt c))
 (9223372036854775807 : Nat))
 (needS (Nat.ble ((2 : Nat) + List.length (txt n)) (9223372036854775807 : Nat))
 (needS
 (Nat.ble
 (List.length
 (Row.nm (rowOf op) ++ (32 : UInt8) :: (114 : UInt8) :: txt a ++ (44 : UInt8) :: (32 : UInt8) :: (114 : UInt8) :: txt b ++ (44 : UInt8) :: (32 : UInt8) :: (114 : UInt8) :: txt c) +
 List.length ((44 : UInt8) :: (32 : UInt8) :: txt n))
 (9223372036854775807 : Nat))
 (Q
 (IV.str
 (Row.nm (rowOf op) ++ (32 : UInt8) :: (114 : UInt8) :: txt a ++ (44 : UInt8) :: (32 : UInt8) :: (114 : UInt8) :: txt b ++ (44 : UInt8) :: (32 : UInt8) :: (114 : UInt8) :: txt c ++
 (44 : UInt8) :: (32 : UInt8) :: txt n))
 h)))))))))
 (needS (Nat.ble ((1 : Nat) + List.length ((114 : UInt8) :: txt a)) (9223372036854775807 : Nat))
 (needS (Nat.ble (List.length (Row.nm (rowOf op)) + List.length ((32 : UInt8) :: (114 : UInt8) :: txt a)) (9223372036854775807 : Nat))
 (needS (Nat.ble ((2 : Nat) + List.length ((114 : UInt8) :: txt b)) (9223372036854775807 : Nat))
 (needS (Nat.ble (List.length (Row.nm (rowOf op) ++ (32 : UInt8) :: (114 : UInt8) :: txt a) + List.length ((44 : UInt8) :: (32 : UInt8) :: (114 : UInt8) :: txt b)) (9223372036854775807 : Nat))
 (needS (Nat.ble ((2 : Nat) + List.length ((114 : UInt8) :: txt c)) (9223372036854775807 : Nat))
 (needS
 (Nat.ble
 (List.length (Row.nm (rowOf op) ++ (32 : UInt8) :: (114 : UInt8) :: txt a ++ (44 : UInt8) :: (32 : UInt8) :: (114 : UInt8) :: txt b) +
 List.length ((44 : UInt8) :: (32 : UInt8) :: (114 : UInt8) :: txt c))
 (9223372036854775807 : Nat))
 (Q (IV.str (Row.nm (rowOf op) ++ (32 : UInt8) :: (114 : UInt8) :: txt a ++ (44 : UInt8) :: (32 : UInt8) :: (114 : UInt8) :: txt b ++ (44 : UInt8) :: (32 : UInt8) :: (114 : UInt8) :: txt c))
 h))))))))))))
 (brS (Row.fm (rowOf op) == (8 : Int))
 (((-9223372036854775808 : Int) ≤ n ∧ n ≤ (9223372036854775807 : Int)) ∧
 needS (Nat.ble ((1 : Nat) + List.length ((114 : UInt8) :: txt a)) (9223372036854775807 : Nat))
 (needS (Nat.ble (List.length (Row.nm (rowOf op)) + List.length ((32 : UInt8) :: (114 : UInt8) :: txt a)) (9223372036854775807 : Nat))
 (needS (Nat.ble ((2 : Nat) + List.length ((114 : UInt8) :: txt b)) (9223372036854775807 : Nat))
 (needS (Nat.ble (List.length (Row.nm (rowOf op) ++ (32 : UInt8) :: (114 : UInt8) :: txt a) + List.length ((44 : UInt8) :: (32 : UInt8) :: (114 : UInt8) :: txt b)) (9223372036854775807 : Nat))
 (needS (Nat.ble ((2 : Nat) + List.length (txt n)) (9223372036854775807 : Nat))
 (needS
 (Nat.ble (List.length (Row.nm (rowOf op) ++ (32 : UInt8) :: (114 : UInt8) :: txt a ++ (44 : UInt8) :: (32 : UInt8) :: (114 : UInt8) :: txt b) + List.length ((44 : UInt8) :: (32 : UInt8) :: txt n))
 (9223372036854775807 : Nat))
 (Q (IV.str (Row.nm (rowOf op) ++ (32 : UInt8) :: (114 : UInt8) :: txt a ++ (44 : UInt8) :: (32 : UInt8) :: (114 : UInt8) :: txt b ++ (44 : UInt8) :: (32 : UInt8) :: txt n)) h)))))))
 (brS (Row.fm (rowOf op) == (5 : Int))
 (((-9223372036854775808 : Int) ≤ n ∧ n ≤ (9223372036854775807 : Int)) ∧
 needS (Nat.ble ((1 : Nat) + List.length ((114 : UInt8) :: txt a)) (9223372036854775807 : Nat))
 (needS (Nat.ble (List.length (Row.nm (rowOf op)) + List.length ((32 : UInt8) :: (114 : UInt8) :: txt a)) (9223372036854775807 : Nat))
 (needS (Nat.ble ((2 : Nat) + List.length ((114 : UInt8) :: txt b)) (9223372036854775807 : Nat))
 (needS (Nat.ble (List.length (Row.nm (rowOf op) ++ (32 : UInt8) :: (114 : UInt8) :: txt a) + List.length ((44 : UInt8) :: (32 : UInt8) :: (114 : UInt8) :: txt b)) (9223372036854775807 : Nat))
 (needS (Nat.ble ((2 : Nat) + List.length (txt n)) (9223372036854775807 : Nat))
 (needS
 (Nat.ble (List.length (Row.nm (rowOf op) ++ (32 : UInt8) :: (114 : UInt8) :: txt a ++ (44 : UInt8) :: (32 : UInt8) :: (114 : UInt8) :: txt b) + List.length ((44 : UInt8) :: (32 : UInt8) :: txt n))
 (9223372036854775807 : Nat))
 (Q (IV.str (Row.nm (rowOf op) ++ (32 : UInt8) :: (114 : UInt8) :: txt a ++ (44 : UInt8) :: (32 : UInt8) :: (114 : UInt8) :: txt b ++ (44 : UInt8) :: (32 : UInt8) :: txt n)) h)))))))
 (brS (Row.fm (rowOf op) == (6 : Int))
 (((-9223372036854775808 : Int) ≤ n ∧ n ≤ (9223372036854775807 : Int)) ∧
 needS (Nat.ble ((1 : Nat) + List.length ((114 : UInt8) :: txt a)) (9223372036854775807 : Nat))
 (needS (Nat.ble (List.length (Row.nm (rowOf op)) + List.length ((32 : UInt8) :: (114 : UInt8) :: txt a)) (9223372036854775807 : Nat))
 (needS (Nat.ble ((2 : Nat) + List.length ((114 : UInt8) :: txt b)) (9223372036854775807 : Nat))
 (needS (Nat.ble (List.length (Row.nm (rowOf op) ++ (32 : UInt8) :: (114 : UInt8) :: txt a) + List.length ((44 : UInt8) :: (32 : UInt8) :: (114 : UInt8) :: txt b)) (9223372036854775807 : Nat))
 (needS (Nat.ble ((2 : Nat) + List.length (txt n)) (9223372036854775807 : Nat))
 (needS
 (Nat.ble (List.length (Row.nm (rowOf op) ++ (32 : UInt8) :: (114 : UInt8) :: txt a ++ (44 : UInt8) :: (32 : UInt8) :: (114 : UInt8) :: txt b) + List.length ((44 : UInt8) :: (32 : UInt8) :: txt n))
 (9223372036854775807 : Nat))
 (Q (IV.str (Row.nm (rowOf op) ++ (32 : UInt8) :: (114 : UInt8) :: txt a ++ (44 : UInt8) :: (32 : UInt8) :: (114 : UInt8) :: txt b ++ (44 : UInt8) :: (32 : UInt8) :: txt n)) h)))))))
 (brS (Row.fm (rowOf op) == (7 : Int))
 (((-9223372036854775808 : Int) ≤ n ∧ n ≤ (9223372036854775807 : Int)) ∧
 needS (Nat.ble ((1 : Nat) + List.length ((114 : UInt8) :: txt a)) (9223372036854775807 : Nat))
 (needS (Nat.ble (List.length (Row.nm (rowOf op)) + List.length ((32 : UInt8) :: (114 : UInt8) :: txt a)) (9223372036854775807 : Nat))
 (needS (Nat.ble ((2 : Nat) + List.length ((114 : UInt8) :: txt b)) (9223372036854775807 : Nat))
 (needS (Nat.ble (List.length (Row.nm (rowOf op) ++ (32 : UInt8) :: (114 : UInt8) :: txt a) + List.length ((44 : UInt8) :: (32 : UInt8) :: (114 : UInt8) :: txt b)) (9223372036854775807 : Nat))
 (needS (Nat.ble ((2 : Nat) + List.length (txt n)) (9223372036854775807 : Nat))
 (needS
 (Nat.ble
 (List.length (Row.nm (rowOf op) ++ (32 : UInt8) :: (114 : UInt8) :: txt a ++ (44 : UInt8) :: (32 : UInt8) :: (114 : UInt8) :: txt b) + List.length ((44 : UInt8) :: (32 : UInt8) :: txt n))
 (9223372036854775807 : Nat))
 (Q (IV.str (Row.nm (rowOf op) ++ (32 : UInt8) :: (114 : UInt8) :: txt a ++ (44 : UInt8) :: (32 : UInt8) :: (114 : UInt8) :: txt b ++ (44 : UInt8) :: (32 : UInt8) :: txt n)) h)))))))
 (needS (Nat.ble ((1 : Nat) + List.length ((114 : UInt8) :: txt a)) (9223372036854775807 : Nat))
 (needS (Nat.ble (List.length (Row.nm (rowOf op)) + List.length ((32 : UInt8) :: (114 : UInt8) :: txt a)) (9223372036854775807 : Nat))
 (needS (Nat.ble ((2 : Nat) + List.length ((114 : UInt8) :: txt b)) (9223372036854775807 : Nat))
 (needS (Nat.ble (List.length (Row.nm (rowOf op) ++ (32 : UInt8) :: (114 : UInt8) :: txt a) + List.length ((44 : UInt8) :: (32 : UInt8) :: (114 : UInt8) :: txt b)) (9223372036854775807 : Nat))
 (Q (IV.str (Row.nm (rowOf op) ++ (32 : UInt8) :: (114 : UInt8) :: txt a ++ (44 : UInt8) :: (32 : UInt8) :: (114 : UInt8) :: txt b)) h)))))))))))
 (brS (Row.fm (rowOf op) == (4 : Int))
 (((-9223372036854775808 : Int) ≤ c ∧ c ≤ (9223372036854775807 : Int)) ∧
 needS (Nat.ble ((1 : Nat) + List.length (txt c)) (9223372036854775807 : Nat))
 (brS (Row.fm (rowOf op) == (8 : Int))
 (((-9223372036854775808 : Int) ≤ n ∧ n ≤ (9223372036854775807 : Int)) ∧
 needS (Nat.ble ((1 : Nat) + List.length ((114 : UInt8) :: txt a)) (9223372036854775807 : Nat))
 (needS (Nat.ble (List.length (Row.nm (rowOf op)) + List.length ((32 : UInt8) :: (114 : UInt8) :: txt a)) (9223372036854775807 : Nat))
 (needS (Nat.ble ((2 : Nat) + List.length ((114 : UInt8) :: txt c)) (9223372036854775807 : Nat))
 (needS (Nat.ble (List.length (Row.nm (rowOf op) ++ (32 : UInt8) :: (114 : UInt8) :: txt a) + List.length ((44 : UInt8) :: (32 : UInt8) :: (114 : UInt8) :: txt c)) (9223372036854775807 : Nat))
 (needS (Nat.ble ((2 : Nat) + List.length (txt n)) (9223372036854775807 : Nat))
 (needS
 (Nat.ble (List.length (Row.nm (rowOf op) ++ (32 : UInt8) :: (114 : UInt8) :: txt a ++ (44 : UInt8) :: (32 : UInt8) :: (114 : UInt8) :: txt c) + List.length ((44 : UInt8) :: (32 : UInt8) :: txt n))
 (9223372036854775807 : Nat))
 (Q (IV.str (Row.nm (rowOf op) ++ (32 : UInt8) :: (114 : UInt8) :: txt a ++ (44 : UInt8) :: (32 : UInt8) :: (114 : UInt8) :: txt c ++ (44 : UInt8) :: (32 : UInt8) :: txt n)) h)))))))
 (brS (Row.fm (rowOf op) == (5 : Int))
 (((-9223372036854775808 : Int) ≤ n ∧ n ≤ (9223372036854775807 : Int)) ∧
 needS (Nat.ble ((1 : Nat) + List.length ((114 : UInt8) :: txt a)) (9223372036854775807 : Nat))
 (needS (Nat.ble (List.length (Row.nm (rowOf op)) + List.length ((32 : UInt8) :: (114 : UInt8) :: txt a)) (9223372036854775807 : Nat))
 (needS (Nat.ble ((2 : Nat) + List.length ((114 : UInt8) :: txt c)) (9223372036854775807 : Nat))
 (needS (Nat.ble (List.length (Row.nm (rowOf op) ++ (32 : UInt8) :: (114 : UInt8) :: txt a) + List.length ((44 : UInt8) :: (32 : UInt8) :: (114 : UInt8) :: txt c)) (9223372036854775807 : Nat))
 (needS (Nat.ble ((2 : Nat) + List.length (txt n)) (9223372036854775807 : Nat))
 (needS
 (Nat.ble (List.length (Row.nm (rowOf op) ++ (32 : UInt8) :: (114 : UInt8) :: txt a ++ (44 : UInt8) :: (32 : UInt8) :: (114 : UInt8) :: txt c) + List.length ((44 : UInt8) :: (32 : UInt8) :: txt n))
 (9223372036854775807 : Nat))
 (Q (IV.str (Row.nm (rowOf op) ++ (32 : UInt8) :: (114 : UInt8) :: txt a ++ (44 : UInt8) :: (32 : UInt8) :: (114 : UInt8) :: txt c ++ (44 : UInt8) :: (32 : UInt8) :: txt n)) h)))))))
 (brS (Row.fm (rowOf op) == (6 : Int))
 (((-9223372036854775808 : Int) ≤ n ∧ n ≤ (9223372036854775807 : Int)) ∧
 needS (Nat.ble ((1 : Nat) + List.length ((114 : UInt8) :: txt a)) (9223372036854775807 : Nat))
 (needS (Nat.ble (List.length (Row.nm (rowOf op)) + List.length ((32 : UInt8) :: (114 : UInt8) :: txt a)) (9223372036854775807 : Nat))
 (needS (Nat.ble ((2 : Nat) + List.length ((114 : UInt8) :: txt c)) (9223372036854775807 : Nat))
 (needS (Nat.ble (List.length (Row.nm (rowOf op) ++ (32 : UInt8) :: (114 : UInt8) :: txt a) + List.length ((44 : UInt8) :: (32 : UInt8) :: (114 : UInt8) :: txt c)) (9223372036854775807 : Nat))
 (needS (Nat.ble ((2 : Nat) + List.length (txt n)) (9223372036854775807 : Nat))
 (needS
 (Nat.ble (List.length (Row.nm (rowOf op) ++ (32 : UInt8) :: (114 : UInt8) :: txt a ++ (44 : UInt8) :: (32 : UInt8) :: (114 : UInt8) :: txt c) + List.length ((44 : UInt8) :: (32 : UInt8) :: txt n))
 (9223372036854775807 : Nat))
 (Q (IV.str (Row.nm (rowOf op) ++ (32 : UInt8) :: (114 : UInt8) :: txt a ++ (44 : UInt8) :: (32 : UInt8) :: (114 : UInt8) :: txt c ++ (44 : UInt8) :: (32 : UInt8) :: txt n)) h)))))))
 (brS (Row.fm (rowOf op) == (7 : Int))
 (((-9223372036854775808 : Int) ≤ n ∧ n ≤ (9223372036854775807 : Int)) ∧
 needS (Nat.ble ((1 : Nat) + List.length ((114 : UInt8) :: txt a)) (9223372036854775807 : Nat))
 (needS (Nat.ble (List.length (Row.nm (rowOf op)) + List.length ((32 : UInt8) :: (114 : UInt8) :: txt a)) (9223372036854775807 : Nat))
 (needS (Nat.ble ((2 : Nat) + List.length ((114 : UInt8) :: txt c)) (9223372036854775807 : Nat))
 (needS (Nat.ble (List.length (Row.nm (rowOf op) ++ (32 : UInt8) :: (114 : UInt8) :: txt a) + List.length ((44 : UInt8) :: (32 : UInt8) :: (114 : UInt8) :: txt c)) (9223372036854775807 : Nat))
 (needS (Nat.ble ((2 : Nat) + List.length (txt n)) (9223372036854775807 : Nat))
 (needS
 (Nat.ble
 (List.length (Row.nm (rowOf op) ++ (32 : UInt8) :: (114 : UInt8) :: txt a ++ (44 : UInt8) :: (32 : UInt8) :: (114 : UInt8) :: txt c) + List.length ((44 : UInt8) :: (32 : UInt8) :: txt n))
 (9223372036854775807 : Nat))
 (Q (IV.str (Row.nm (rowOf op) ++ (32 : UInt8) :: (114 : UInt8) :: txt a ++ (44 : UInt8) :: (32 : UInt8) :: (114 : UInt8) :: txt c ++ (44 : UInt8) :: (32 : UInt8) :: txt n)) h)))))))
 (needS (Nat.ble ((1 : Nat) + List.length ((114 : UInt8) :: txt a)) (9223372036854775807 : Nat))
 (needS (Nat.ble (List.length (Row.nm (rowOf op)) + List.length ((32 : UInt8) :: (114 : UInt8) :: txt a)) (9223372036854775807 : Nat))
 (needS (Nat.ble ((2 : Nat) + List.length ((114 : UInt8) :: txt c)) (9223372036854775807 : Nat))
 (needS (Nat.ble (List.length (Row.nm (rowOf op) ++ (32 : UInt8) :: (114 : UInt8) :: txt a) + List.length ((44 : UInt8) :: (32 : UInt8) :: (114 : UInt8) :: txt c)) (9223372036854775807 : Nat))
 (Q (IV.str (Row.nm (rowOf op) ++ (32 : UInt8) :: (114 : UInt8) :: txt a ++ (44 : UInt8) :: (32 : UInt8) :: (114 : UInt8) :: txt c)) h))))))))))
 (brS (Row.fm (rowOf op) == (8 : Int))
 (((-9223372036854775808 : Int) ≤ n ∧ n ≤ (9223372036854775807 : Int)) ∧
 needS (Nat.ble ((1 : Nat) + List.length ((114 : UInt8) :: txt a)) (9223372036854775807 : Nat))
 (needS (Nat.ble (List.length (Row.nm (rowOf op)) + List.length ((32 : UInt8) :: (114 : UInt8) :: txt a)) (9223372036854775807 : Nat))
 (needS (Nat.ble ((2 : Nat) + List.length (txt n)) (9223372036854775807 : Nat))
 (needS (Nat.ble (List.length (Row.nm (rowOf op) ++ (32 : UInt8) :: (114 : UInt8) :: txt a) + List.length ((44 : UInt8) :: (32 : UInt8) :: txt n)) (9223372036854775807 : Nat))
 (Q (IV.str (Row.nm (rowOf op) ++ (32 : UInt8) :: (114 : UInt8) :: txt a ++ (44 : UInt8) :: (32 : UInt8) :: txt n)) h)))))
 (brS (Row.fm (rowOf op) == (5 : Int))
 (((-9223372036854775808 : Int) ≤ n ∧ n ≤ (9223372036854775807 : Int)) ∧
 needS (Nat.ble ((1 : Nat) + List.length ((114 : UInt8) :: txt a)) (9223372036854775807 : Nat))
 (needS (Nat.ble (List.length (Row.nm (rowOf op)) + List.length ((32 : UInt8) :: (114 : UInt8) :: txt a)) (9223372036854775807 : Nat))
 (needS (Nat.ble ((2 : Nat) + List.length (txt n)) (9223372036854775807 : Nat))
 (needS (Nat.ble (List.length (Row.nm (rowOf op) ++ (32 : UInt8) :: (114 : UInt8) :: txt a) + List.length ((44 : UInt8) :: (32 : UInt8) :: txt n)) (9223372036854775807 : Nat))
 (Q (IV.str (Row.nm (rowOf op) ++ (32 : UInt8) :: (114 : UInt8) :: txt a ++ (44 : UInt8) :: (32 : UInt8) :: txt n)) h)))))
 (brS (Row.fm (rowOf op) == (6 : Int))
 (((-9223372036854775808 : Int) ≤ n ∧ n ≤ (9223372036854775807 : Int)) ∧
 needS (Nat.ble ((1 : Nat) + List.length ((114 : UInt8) :: txt a)) (9223372036854775807 : Nat))
 (needS (Nat.ble (List.length (Row.nm (rowOf op)) + List.length ((32 : UInt8) :: (114 : UInt8) :: txt a)) (9223372036854775807 : Nat))
 (needS (Nat.ble ((2 : Nat) + List.length (txt n)) (9223372036854775807 : Nat))
 (needS (Nat.ble (List.length (Row.nm (rowOf op) ++ (32 : UInt8) :: (114 : UInt8) :: txt a) + List.length ((44 : UInt8) :: (32 : UInt8) :: txt n)) (9223372036854775807 : Nat))
 (Q (IV.str (Row.nm (rowOf op) ++ (32 : UInt8) :: (114 : UInt8) :: txt a ++ (44 : UInt8) :: (32 : UInt8) :: txt n)) h)))))
 (brS (Row.fm (rowOf op) == (7 : Int))
 (((-9223372036854775808 : Int) ≤ n ∧ n ≤ (9223372036854775807 : Int)) ∧
 needS (Nat.ble ((1 : Nat) + List.length ((114 : UInt8) :: txt a)) (9223372036854775807 : Nat))
 (needS (Nat.ble (List.length (Row.nm (rowOf op)) + List.length ((32 : UInt8) :: (114 : UInt8) :: txt a)) (9223372036854775807 : Nat))
 (needS (Nat.ble ((2 : Nat) + List.length (txt n)) (9223372036854775807 : Nat))
 (needS (Nat.ble (List.length (Row.nm (rowOf op) ++ (32 : UInt8) :: (114 : UInt8) :: txt a) + List.length ((44 : UInt8) :: (32 : UInt8) :: txt n)) (9223372036854775807 : Nat))
 (Q (IV.str (Row.nm (rowOf op) ++ (32 : UInt8) :: (114 : UInt8) :: txt a ++ (44 : UInt8) :: (32 : UInt8) :: txt n)) h)))))
 (needS (Nat.ble ((1 : Nat) + List.length ((114 : UInt8) :: txt a)) (9223372036854775807 : Nat))
 (needS (Nat.ble (List.length (Row.nm (rowOf op)) + List.length ((32 : UInt8) :: (114 : UInt8) :: txt a)) (9223372036854775807 : Nat))
 (Q (IV.str (Row.nm (rowOf op) ++ (32 : UInt8) :: (114 : UInt8) :: txt a)) h))))))))))))
 (brS (Row.fm (rowOf op) == (3 : Int))
 (((-9223372036854775808 : Int) ≤ b ∧ b ≤ (9223372036854775807 : Int)) ∧
 needS (Nat.ble ((1 : Nat) + List.length (txt b)) (9223372036854775807 : Nat))
 (brS (Row.fm (rowOf op) == (4 : Int))
 (((-9223372036854775808 : Int) ≤ c ∧ c ≤ (9223372036854775807 : Int)) ∧
 needS (Nat.ble ((1 : Nat) + List.length (txt c)) (9223372036854775807 : Nat))
 (brS (Row.fm (rowOf op) == (8 : Int))
 (((-9223372036854775808 : Int) ≤ n ∧ n ≤ (9223372036854775807 : Int)) ∧
 needS (Nat.ble ((1 : Nat) + List.length ((114 : UInt8) :: txt b)) (9223372036854775807 : Nat))
 (needS (Nat.ble (List.length (Row.nm (rowOf op)) + List.length ((32 : UInt8) :: (114 : UInt8) :: txt b)) (9223372036854775807 : Nat))
 (needS (Nat.ble ((2 : Nat) + List.length ((114 : UInt8) :: txt c)) (9223372036854775807 : Nat))
 (needS (Nat.ble (List.length (Row.nm (rowOf op) ++ (32 : UInt8) :: (114 : UInt8) :: txt b) + List.length ((44 : UInt8) :: (32 : UInt8) :: (114 : UInt8) :: txt c)) (9223372036854775807 : Nat))
 (needS (Nat.ble ((2 : Nat) + List.length (txt n)) (9223372036854775807 : Nat))
 (needS
 (Nat.ble (List.length (Row.nm (rowOf op) ++ (32 : UInt8) :: (114 : UInt8) :: txt b ++ (44 : UInt8) :: (32 : UInt8) :: (114 : UInt8) :: txt c) + List.length ((44 : UInt8) :: (32 : UInt8) :: txt n))
 (9223372036854775807 : Nat))
 (Q (IV.str (Row.nm (rowOf op) ++ (32 : UInt8) :: (114 : UInt8) :: txt b ++ (44 : UInt8) :: (32 : UInt8) :: (114 : UInt8) :: txt c ++ (44 : UInt8) :: (32 : UInt8) :: txt n)) h)))))))
 (brS (Row.fm (rowOf op) == (5 : Int))
 (((-9223372036854775808 : Int) ≤ n ∧ n ≤ (9223372036854775807 : Int)) ∧
 needS (Nat.ble ((1 : Nat) + List.length ((114 : UInt8) :: txt b)) (9223372036854775807 : Nat))
 (needS (Nat.ble (List.length (Row.nm (rowOf op)) + List.length ((32 : UInt8) :: (114 : UInt8) :: txt b)) (9223372036854775807 : Nat))
 (needS (Nat.ble ((2 : Nat) + List.length ((114 : UInt8) :: txt c)) (9223372036854775807 : Nat))
 (needS (Nat.ble (List.length (Row.nm (rowOf op) ++ (32 : UInt8) :: (114 : UInt8) :: txt b) + List.length ((44 : UInt8) :: (32 : UInt8) :: (114 : UInt8) :: txt c)) (9223372036854775807 : Nat))
 (needS (Nat.ble ((2 : Nat) + List.length (txt n)) (9223372036854775807 : Nat))
 (needS
 (Nat.ble (List.length (Row.nm (rowOf op) ++ (32 : UInt8) :: (114 : UInt8) :: txt b ++ (44 : UInt8) :: (32 : UInt8) :: (114 : UInt8) :: txt c) + List.length ((44 : UInt8) :: (32 : UInt8) :: txt n))
 (9223372036854775807 : Nat))
 (Q (IV.str (Row.nm (rowOf op) ++ (32 : UInt8) :: (114 : UInt8) :: txt b ++ (44 : UInt8) :: (32 : UInt8) :: (114 : UInt8) :: txt c ++ (44 : UInt8) :: (32 : UInt8) :: txt n)) h)))))))
 (brS (Row.fm (rowOf op) == (6 : Int))
 (((-9223372036854775808 : Int) ≤ n ∧ n ≤ (9223372036854775807 : Int)) ∧
 needS (Nat.ble ((1 : Nat) + List.length ((114 : UInt8) :: txt b)) (9223372036854775807 : Nat))
 (needS (Nat.ble (List.length (Row.nm (rowOf op)) + List.length ((32 : UInt8) :: (114 : UInt8) :: txt b)) (9223372036854775807 : Nat))
 (needS (Nat.ble ((2 : Nat) + List.length ((114 : UInt8) :: txt c)) (9223372036854775807 : Nat))
 (needS (Nat.ble (List.length (Row.nm (rowOf op) ++ (32 : UInt8) :: (114 : UInt8) :: txt b) + List.length ((44 : UInt8) :: (32 : UInt8) :: (114 : UInt8) :: txt c)) (9223372036854775807 : Nat))
 (needS (Nat.ble ((2 : Nat) + List.length (txt n)) (9223372036854775807 : Nat))
 (needS
 (Nat.ble (List.length (Row.nm (rowOf op) ++ (32 : UInt8) :: (114 : UInt8) :: txt b ++ (44 : UInt8) :: (32 : UInt8) :: (114 : UInt8) :: txt c) + List.length ((44 : UInt8) :: (32 : UInt8) :: txt n))
 (9223372036854775807 : Nat))
 (Q (IV.str (Row.nm (rowOf op) ++ (32 : UInt8) :: (114 : UInt8) :: txt b ++ (44 : UInt8) :: (32 : UInt8) :: (114 : UInt8) :: txt c ++ (44 : UInt8) :: (32 : UInt8) :: txt n)) h)))))))
 (brS (Row.fm (rowOf op) == (7 : Int))
 (((-9223372036854775808 : Int) ≤ n ∧ n ≤ (9223372036854775807 : Int)) ∧
 needS (Nat.ble ((1 : Nat) + List.length ((114 : UInt8) :: txt b)) (9223372036854775807 : Nat))
 (needS (Nat.ble (List.length (Row.nm (rowOf op)) + List.length ((32 : UInt8) :: (114 : UInt8) :: txt b)) (9223372036854775807 : Nat))
 (needS (Nat.ble ((2 : Nat) + List.length ((114 : UInt8) :: txt c)) (9223372036854775807 : Nat))
 (needS (Nat.ble (List.length (Row.nm (rowOf op) ++ (32 : UInt8) :: (114 : UInt8) :: txt b) + List.length ((44 : UInt8) :: (32 : UInt8) :: (114 : UInt8) :: txt c)) (9223372036854775807 : Nat))
 (needS (Nat.ble ((2 : Nat) + List.length (txt n)) (9223372036854775807 : Nat))
 (needS
 (Nat.ble (List.length (Row.nm (rowOf op) ++ (32 : UInt8) :: (114 : UInt8) :: txt b ++ (44 : UInt8) :: (32 : UInt8) :: (114 : UInt8) :: txt c) + List.length ((44 : UInt8) :: (32 : UInt8) :: txt n))
 (9223372036854775807 : Nat))
 (Q (IV.str (Row.nm (rowOf op) ++ (32 : UInt8) :: (114 : UInt8) :: txt b ++ (44 : UInt8) :: (32 : UInt8) :: (114 : UInt8) :: txt c ++ (44 : UInt8) :: (32 : UInt8) :: txt n)) h)))))))
 (needS (Nat.ble ((1 : Nat) + List.length ((114 : UInt8) :: txt b)) (9223372036854775807 : Nat))
 (needS (Nat.ble (List.length (Row.nm (rowOf op)) + List.length ((32 : UInt8) :: (114 : UInt8) :: txt b)) (9223372036854775807 : Nat))
 (needS (Nat.ble ((2 : Nat) + List.length ((114 : UInt8) :: txt c)) (9223372036854775807 : Nat))
 (needS (Nat.ble (List.length (Row.nm (rowOf op) ++ (32 : UInt8) :: (114 : UInt8) :: txt b) + List.length ((44 : UInt8) :: (32 : UInt8) :: (114 : UInt8) :: txt c)) (9223372036854775807 : Nat))
 (Q (IV.str (Row.nm (rowOf op) ++ (32 : UInt8) :: (114 : UInt8) :: txt b ++ (44 : UInt8) :: (32 : UInt8) :: (114 : UInt8) :: txt c)) h))))))))))
 (brS (Row.fm (rowOf op) == (8 : Int))
 (((-9223372036854775808 : Int) ≤ n ∧ n ≤ (9223372036854775807 : Int)) ∧
 needS (Nat.ble ((1 : Nat) + List.length ((114 : UInt8) :: txt b)) (9223372036854775807 : Nat))
 (needS (Nat.ble (List.length (Row.nm (rowOf op)) + List.length ((32 : UInt8) :: (114 : UInt8) :: txt b)) (9223372036854775807 : Nat))
 (needS (Nat.ble ((2 : Nat) + List.length (txt n)) (9223372036854775807 : Nat))
 (needS (Nat.ble (List.length (Row.nm (rowOf op) ++ (32 : UInt8) :: (114 : UInt8) :: txt b) + List.length ((44 : UInt8) :: (32 : UInt8) :: txt n)) (9223372036854775807 : Nat))
 (Q (IV.str (Row.nm (rowOf op) ++ (32 : UInt8) :: (114 : UInt8) :: txt b ++ (44 : UInt8) :: (32 : UInt8) :: txt n)) h)))))
 (brS (Row.fm (rowOf op) == (5 : Int))
 (((-9223372036854775808 : Int) ≤ n ∧ n ≤ (9223372036854775807 : Int)) ∧
 needS (Nat.ble ((1 : Nat) + List.length ((114 : UInt8) :: txt b)) (9223372036854775807 : Nat))
 (needS (Nat.ble (List.length (Row.nm (rowOf op)) + List.length ((32 : UInt8) :: (114 : UInt8) :: txt b)) (9223372036854775807 : Nat))
 (needS (Nat.ble ((2 : Nat) + List.length (txt n)) (9223372036854775807 : Nat))
 (needS (Nat.ble (List.length (Row.nm (rowOf op) ++ (32 : UInt8) :: (114 : UInt8) :: txt b) + List.length ((44 : UInt8) :: (32 : UInt8) :: txt n)) (9223372036854775807 : Nat))
 (Q (IV.str (Row.nm (rowOf op) ++ (32 : UInt8) :: (114 : UInt8) :: txt b ++ (44 : UInt8) :: (32 : UInt8) :: txt n)) h)))))
 (brS (Row.fm (rowOf op) == (6 : Int))
 (((-9223372036854775808 : Int) ≤ n ∧ n ≤ (9223372036854775807 : Int)) ∧
 needS (Nat.ble ((1 : Nat) + List.length ((114 : UInt8) :: txt b)) (9223372036854775807 : Nat))
 (needS (Nat.ble (List.length (Row.nm (rowOf op)) + List.length ((32 : UInt8) :: (114 : UInt8) :: txt b)) (9223372036854775807 : Nat))
 (needS (Nat.ble ((2 : Nat) + List.length (txt n)) (9223372036854775807 : Nat))
 (needS (Nat.ble (List.length (Row.nm (rowOf op) ++ (32 : UInt8) :: (114 : UInt8) :: txt b) + List.length ((44 : UInt8) :: (32 : UInt8) :: txt n)) (9223372036854775807 : Nat))
 (Q (IV.str (Row.nm (rowOf op) ++ (32 : UInt8) :: (114 : UInt8) :: txt b ++ (44 : UInt8) :: (32 : UInt8) :: txt n)) h)))))
 (brS (Row.fm (rowOf op) == (7 : Int))
 (((-9223372036854775808 : Int) ≤ n ∧ n ≤ (9223372036854775807 : Int)) ∧
 needS (Nat.ble ((1 : Nat) + List.length ((114 : UInt8) :: txt b)) (9223372036854775807 : Nat))
 (needS (Nat.ble (List.length (Row.nm (rowOf op)) + List.length ((32 : UInt8) :: (114 : UInt8) :: txt b)) (9223372036854775807 : Nat))
 (needS (Nat.ble ((2 : Nat) + List.length (txt n)) (9223372036854775807 : Nat))
 (needS (Nat.ble (List.length (Row.nm (rowOf op) ++ (32 : UInt8) :: (114 : UInt8) :: txt b) + List.length ((44 : UInt8) :: (32 : UInt8) :: txt n)) (9223372036854775807 : Nat))
 (Q (IV.str (Row.nm (rowOf op) ++ (32 : UInt8) :: (114 : UInt8) :: txt b ++ (44 : UInt8) :: (32 : UInt8) :: txt n)) h)))))
 (needS (Nat.ble ((1 : Nat) + List.length ((114 : UInt8) :: txt b)) (9223372036854775807 : Nat))
 (needS (Nat.ble (List.length (Row.nm (rowOf op)) + List.length ((32 : UInt8) :: (114 : UInt8) :: txt b)) (9223372036854775807 : Nat))
 (Q (IV.str (Row.nm (rowOf op) ++ (32 : UInt8) :: (114 : UInt8) :: txt b)) h)))))))))
 (brS (Row.fm (rowOf op) == (4 : Int))
 (((-9223372036854775808 : Int) ≤ b ∧ b ≤ (9223372036854775807 : Int)) ∧
 needS (Nat.ble ((1 : Nat) + List.length (txt b)) (9223372036854775807 : Nat))
 (brS (Row.fm (rowOf op) == (4 : Int))
 (((-9223372036854775808 : Int) ≤ c ∧ c ≤ (9223372036854775807 : Int)) ∧
 needS (Nat.ble ((1 : Nat) + List.length (txt c)) (9223372036854775807 : Nat))
 (brS (Row.fm (rowOf op) == (8 : Int))
 (((-9223372036854775808 : Int) ≤ n ∧ n ≤ (9223372036854775807 : Int)) ∧
 needS (Nat.ble ((1 : Nat) + List.length ((114 : UInt8) :: txt b)) (9223372036854775807 : Nat))
 (needS (Nat.ble (List.length (Row.nm (rowOf op)) + List.length ((32 : UInt8) :: (114 : UInt8) :: txt b)) (9223372036854775807 : Nat))
 (needS (Nat.ble ((2 : Nat) + List.length ((114 : UInt8) :: txt c)) (9223372036854775807 : Nat))
 (needS (Nat.ble (List.length (Row.nm (rowOf op) ++ (32 : UInt8) :: (114 : UInt8) :: txt b) + List.length ((44 : UInt8) :: (32 : UInt8) :: (114 : UInt8) :: txt c)) (9223372036854775807 : Nat))
 (needS (Nat.ble ((2 : Nat) + List.length (txt n)) (9223372036854775807 : Nat))
 (needS
 (Nat.ble (List.length (Row.nm (rowOf op) ++ (32 : UInt8) :: (114 : UInt8) :: txt b ++ (44 : UInt8) :: (32 : UInt8) :: (114 : UInt8) :: txt c) + List.length ((44 : UInt8) :: (32 : UInt8) :: txt n))
 (9223372036854775807 : Nat))
 (Q (IV.str (Row.nm (rowOf op) ++ (32 : UInt8) :: (114 : UInt8) :: txt b ++ (44 : UInt8) :: (32 : UInt8) :: (114 : UInt8) :: txt c ++ (44 : UInt8) :: (32 : UInt8) :: txt n)) h)))))))
 (brS (Row.fm (rowOf op) == (5 : Int))
 (((-9223372036854775808 : Int) ≤ n ∧ n ≤ (9223372036854775807 : Int)) ∧
 needS (Nat.ble ((1 : Nat) + List.length ((114 : UInt8) :: txt b)) (9223372036854775807 : Nat))
 (needS (Nat.ble (List.length (Row.nm (rowOf op)) + List.length ((32 : UInt8) :: (114 : UInt8) :: txt b)) (9223372036854775807 : Nat))
 (needS (Nat.ble ((2 : Nat) + List.length ((114 : UInt8) :: txt c)) (9223372036854775807 : Nat))
 (needS (Nat.ble (List.length (Row.nm (rowOf op) ++ (32 : UInt8) :: (114 : UInt8) :: txt b) + List.length ((44 : UInt8) :: (32 : UInt8) :: (114 : UInt8) :: txt c)) (9223372036854775807 : Nat))
 (needS (Nat.ble ((2 : Nat) + List.length (txt n)) (9223372036854775807 : Nat))
 (needS
 (Nat.ble (List.length (Row.nm (rowOf op) ++ (32 : UInt8) :: (114 : UInt8) :: txt b ++ (44 : UInt8) :: (32 : UInt8) :: (114 : UInt8) :: txt c) + List.length ((44 : UInt8) :: (32 : UInt8) :: txt n))
 (9223372036854775807 : Nat))
 (Q (IV.str (Row.nm (rowOf op) ++ (32 : UInt8) :: (114 : UInt8) :: txt b ++ (44 : UInt8) :: (32 : UInt8) :: (114 : UInt8) :: txt c ++ (44 : UInt8) :: (32 : UInt8) :: txt n)) h)))))))
 (brS (Row.fm (rowOf op) == (6 : Int))
 (((-9223372036854775808 : Int) ≤ n ∧ n ≤ (9223372036854775807 : Int)) ∧
 needS (Nat.ble ((1 : Nat) + List.length ((114 : UInt8) :: txt b)) (9223372036854775807 : Nat))
 (needS (Nat.ble (List.length (Row.nm (rowOf op)) + List.length ((32 : UInt8) :: (114 : UInt8) :: txt b)) (9223372036854775807 : Nat))
 (needS (Nat.ble ((2 : Nat) + List.length ((114 : UInt8) :: txt c)) (9223372036854775807 : Nat))
 (needS (Nat.ble (List.length (Row.nm (rowOf op) ++ (32 : UInt8) :: (114 : UInt8) :: txt b) + List.length ((44 : UInt8) :: (32 : UInt8) :: (114 : UInt8) :: txt c)) (9223372036854775807 : Nat))
 (needS (Nat.ble ((2 : Nat) + List.length (txt n)) (9223372036854775807 : Nat))
 (needS
 (Nat.ble (List.length (Row.nm (rowOf op) ++ (32 : UInt8) :: (114 : UInt8) :: txt b ++ (44 : UInt8) :: (32 : UInt8) :: (114 : UInt8) :: txt c) + List.length ((44 : UInt8) :: (32 : UInt8) :: txt n))
 (9223372036854775807 : Nat))
 (Q (IV.str (Row.nm (rowOf op) ++ (32 : UInt8) :: (114 : UInt8) :: txt b ++ (44 : UInt8) :: (32 : UInt8) :: (114 : UInt8) :: txt c ++ (44 : UInt8) :: (32 : UInt8) :: txt n)) h)))))))
 (brS (Row.fm (rowOf op) == (7 : Int))
 (((-9223372036854775808 : Int) ≤ n ∧ n ≤ (9223372036854775807 : Int)) ∧
 needS (Nat.ble ((1 : Nat) + List.length ((114 : UInt8) :: txt b)) (9223372036854775807 : Nat))
 (needS (Nat.ble (List.length (Row.nm (rowOf op)) + List.length ((32 : UInt8) :: (114 : UInt8) :: txt b)) (9223372036854775807 : Nat))
 (needS (Nat.ble ((2 : Nat) + List.length ((114 : UInt8) :: txt c)) (9223372036854775807 : Nat))
 (needS (Nat.ble (List.length (Row.nm (rowOf op) ++ (32 : UInt8) :: (114 : UInt8) :: txt b) + List.length ((44 : UInt8) :: (32 : UInt8) :: (114 : UInt8) :: txt c)) (9223372036854775807 : Nat))
 (needS (Nat.ble ((2 : Nat) + List.length (txt n)) (9223372036854775807 : Nat))
 (needS
 (Nat.ble (List.length (Row.nm (rowOf op) ++ (32 : UInt8) :: (114 : UInt8) :: txt b ++ (44 : UInt8) :: (32 : UInt8) :: (114 : UInt8) :: txt c) + List.length ((44 : UInt8) :: (32 : UInt8) :: txt n))
 (9223372036854775807 : Nat))
 (Q (IV.str (Row.nm (rowOf op) ++ (32 : UInt8) :: (114 : UInt8) :: txt b ++ (44 : UInt8) :: (32 : UInt8) :: (114 : UInt8) :: txt c ++ (44 : UInt8) :: (32 : UInt8) :: txt n)) h)))))))
 (needS (Nat.ble ((1 : Nat) + List.length ((114 : UInt8) :: txt b)) (9223372036854775807 : Nat))
 (needS (Nat.ble (List.length (Row.nm (rowOf op)) + List.length ((32 : UInt8) :: (114 : UInt8) :: txt b)) (9223372036854775807 : Nat))
 (needS (Nat.ble ((2 : Nat) + List.length ((114 : UInt8) :: txt c)) (9223372036854775807 : Nat))
 (needS (Nat.ble (List.length (Row.nm (rowOf op) ++ (32 : UInt8) :: (114 : UInt8) :: txt b) + List.length ((44 : UInt8) :: (32 : UInt8) :: (114 : UInt8) :: txt c)) (9223372036854775807 : Nat))
 (Q (IV.str (Row.nm (rowOf op) ++ (32 : UInt8) :: (114 : UInt8) :: txt b ++ (44 : UInt8) :: (32 : UInt8) :: (114 : UInt8) :: txt c)) h))))))))))
 (brS (Row.fm (rowOf op) == (8 : Int))
 (((-9223372036854775808 : Int) ≤ n ∧ n ≤ (9223372036854775807 : Int)) ∧
 needS (Nat.ble ((1 : Nat) + List.length ((114 : UInt8) :: txt b)) (9223372036854775807 : Nat))
 (needS (Nat.ble (List.length (Row.nm (rowOf op)) + List.length ((32 : UInt8) :: (114 : UInt8) :: txt b)) (9223372036854775807 : Nat))
 (needS (Nat.ble ((2 : Nat) + List.length (txt n)) (9223372036854775807 : Nat))
 (needS (Nat.ble (List.length (Row.nm (rowOf op) ++ (32 : UInt8) :: (114 : UInt8) :: txt b) + List.length ((44 : UInt8) :: (32 : UInt8) :: txt n)) (9223372036854775807 : Nat))
 (Q (IV.str (Row.nm (rowOf op) ++ (32 : UInt8) :: (114 : UInt8) :: txt b ++ (44 : UInt8) :: (32 : UInt8) :: txt n)) h)))))
 (brS (Row.fm (rowOf op) == (5 : Int))
 (((-9223372036854775808 : Int) ≤ n ∧ n ≤ (9223372036854775807 : Int)) ∧
 needS (Nat.ble ((1 : Nat) + List.length ((114 : UInt8) :: txt b)) (9223372036854775807 : Nat))
 (needS (Nat.ble (List.length (Row.nm (rowOf op)) + List.length ((32 : UInt8) :: (114 : UInt8) :: txt b)) (9223372036854775807 : Nat))
 (needS (Nat.ble ((2 : Nat) + List.length (txt n)) (9223372036854775807 : Nat))
 (needS (Nat.ble (List.length (Row.nm (rowOf op) ++ (32 : UInt8) :: (114 : UInt8) :: txt b) + List.length ((44 : UInt8) :: (32 : UInt8) :: txt n)) (9223372036854775807 : Nat))
 (Q (IV.str (Row.nm (rowOf op) ++ (32 : UInt8) :: (114 : UInt8) :: txt b ++ (44 : UInt8) :: (32 : UInt8) :: txt n)) h)))))
 (brS (Row.fm (rowOf op) == (6 : Int))
 (((-9223372036854775808 : Int) ≤ n ∧ n ≤ (9223372036854775807 : Int)) ∧
 needS (Nat.ble ((1 : Nat) + List.length ((114 : UInt8) :: txt b)) (9223372036854775807 : Nat))
 (needS (Nat.ble (List.length (Row.nm (rowOf op)) + List.length ((32 : UInt8) :: (114 : UInt8) :: txt b)) (9223372036854775807 : Nat))
 (needS (Nat.ble ((2 : Nat) + List.length (txt n)) (9223372036854775807 : Nat))
 (needS (Nat.ble (List.length (Row.nm (rowOf op) ++ (32 : UInt8) :: (114 : UInt8) :: txt b) + List.length ((44 : UInt8) :: (32 : UInt8) :: txt n)) (9223372036854775807 : Nat))
 (Q (IV.str (Row.nm (rowOf op) ++ (32 : UInt8) :: (114 : UInt8) :: txt b ++ (44 : UInt8) :: (32 : UInt8) :: txt n)) h)))))
 (brS (Row.fm (rowOf op) == (7 : Int))
 (((-9223372036854775808 : Int) ≤ n ∧ n ≤ (9223372036854775807 : Int)) ∧
 needS (Nat.ble ((1 : Nat) + List.length ((114 : UInt8) :: txt b)) (9223372036854775807 : Nat))
 (needS (Nat.ble (List.length (Row.nm (rowOf op)) + List.length ((32 : UInt8) :: (114 : UInt8) :: txt b)) (9223372036854775807 : Nat))
 (needS (Nat.ble ((2 : Nat) + List.length (txt n)) (9223372036854775807 : Nat))
 (needS (Nat.ble (List.length (Row.nm (rowOf op) ++ (32 : UInt8) :: (114 : UInt8) :: txt b) + List.length ((44 : UInt8) :: (32 : UInt8) :: txt n)) (9223372036854775807 : Nat))
 (Q (IV.str (Row.nm (rowOf op) ++ (32 : UInt8) :: (114 : UInt8) :: txt b ++ (44 : UInt8) :: (32 : UInt8) :: txt n)) h)))))
 (needS (Nat.ble ((1 : Nat) + List.length ((114 : UInt8) :: txt b)) (9223372036854775807 : Nat))
 (needS (Nat.ble (List.length (Row.nm (rowOf op)) + List.length ((32 : UInt8) :: (114 : UInt8) :: txt b)) (9223372036854775807 : Nat))
 (Q (IV.str (Row.nm (rowOf op) ++ (32 : UInt8) :: (114 : UInt8) :: txt b)) h)))))))))
 (brS (Row.fm (rowOf op) == (7 : Int))
 (((-9223372036854775808 : Int) ≤ b ∧ b ≤ (9223372036854775807 : Int)) ∧
 needS (Nat.ble ((1 : Nat) + List.length (txt b)) (9223372036854775807 : Nat))
 (brS (Row.fm (rowOf op) == (4 : Int))
 (((-9223372036854775808 : Int) ≤ c ∧ c ≤ (9223372036854775807 : Int)) ∧
 needS (Nat.ble ((1 : Nat) + List.length (txt c)) (9223372036854775807 : Nat))
 (brS (Row.fm (rowOf op) == (8 : Int))
 (((-9223372036854775808 : Int) ≤ n ∧ n ≤ (9223372036854775807 : Int)) ∧
 needS (Nat.ble ((1 : Nat) + List.length ((114 : UInt8) :: txt b)) (9223372036854775807 : Nat))
 (needS (Nat.ble (List.length (Row.nm (rowOf op)) + List.length ((32 : UInt8) :: (114 : UInt8) :: txt b)) (9223372036854775807 : Nat))
 (needS (Nat.ble ((2 : Nat) + List.length ((114 : UInt8) :: txt c)) (9223372036854775807 : Nat))
 (needS (Nat.ble (List.length (Row.nm (rowOf op) ++ (32 : UInt8) :: (114 : UInt8) :: txt b) + List.length ((44 : UInt8) :: (32 : UInt8) :: (114 : UInt8) :: txt c)) (9223372036854775807 : Nat))
 (needS (Nat.ble ((2 : Nat) + List.length (txt n)) (9223372036854775807 : Nat))
 (needS
 (Nat.ble (List.length (Row.nm (rowOf op) ++ (32 : UInt8) :: (114 : UInt8) :: txt b ++ (44 : UInt8) :: (32 : UInt8) :: (114 : UInt8) :: txt c) + List.length ((44 : UInt8) :: (32 : UInt8) :: txt n))
 (9223372036854775807 : Nat))
 (Q (IV.str (Row.nm (rowOf op) ++ (32 : UInt8) :: (114 : UInt8) :: txt b ++ (44 : UInt8) :: (32 : UInt8) :: (114 : UInt8) :: txt c ++ (44 : UInt8) :: (32 : UInt8) :: txt n)) h)))))))
 (brS (Row.fm (rowOf op) == (5 : Int))
 (((-9223372036854775808 : Int) ≤ n ∧ n ≤ (9223372036854775807 : Int)) ∧
 needS (Nat.ble ((1 : Nat) + List.length ((114 : UInt8) :: txt b)) (9223372036854775807 : Nat))
 (needS (Nat.ble (List.length (Row.nm (rowOf op)) + List.length ((32 : UInt8) :: (114 : UInt8) :: txt b)) (9223372036854775807 : Nat))
 (needS (Nat.ble ((2 : Nat) + List.length ((114 : UInt8) :: txt c)) (9223372036854775807 : Nat))
 (needS (Nat.ble (List.length (Row.nm (rowOf op) ++ (32 : UInt8) :: (114 : UInt8) :: txt b) + List.length ((44 : UInt8) :: (32 : UInt8) :: (114 : UInt8) :: txt c)) (9223372036854775807 : Nat))
 (needS (Nat.ble ((2 : Nat) + List.length (txt n)) (9223372036854775807 : Nat))
 (needS
 (Nat.ble (List.length (Row.nm (rowOf op) ++ (32 : UInt8) :: (114 : UInt8) :: txt b ++ (44 : UInt8) :: (32 : UInt8) :: (114 : UInt8) :: txt c) + List.length ((44 : UInt8) :: (32 : UInt8) :: txt n))
 (9223372036854775807 : Nat))
 (Q (IV.str (Row.nm (rowOf op) ++ (32 : UInt8) :: (114 : UInt8) :: txt b ++ (44 : UInt8) :: (32 : UInt8) :: (114 : UInt8) :: txt c ++ (44 : UInt8) :: (32 : UInt8) :: txt n)) h)))))))
 (brS (Row.fm (rowOf op) == (6 : Int))
 (((-9223372036854775808 : Int) ≤ n ∧ n ≤ (9223372036854775807 : Int)) ∧
 needS (Nat.ble ((1 : Nat) + List.length ((114 : UInt8) :: txt b)) (9223372036854775807 : Nat))
 (needS (Nat.ble (List.length (Row.nm (rowOf op)) + List.length ((32 : UInt8) :: (114 : UInt8) :: txt b)) (9223372036854775807 : Nat))
 (needS (Nat.ble ((2 : Nat) + List.length ((114 : UInt8) :: txt c)) (9223372036854775807 : Nat))
 (needS (Nat.ble (List.length (Row.nm (rowOf op) ++ (32 : UInt8) :: (114 : UInt8) :: txt b) + List.length ((44 : UInt8) :: (32 : UInt8) :: (114 : UInt8) :: txt c)) (9223372036854775807 : Nat))
 (needS (Nat.ble ((2 : Nat) + List.length (txt n)) (9223372036854775807 : Nat))
 (needS
 (Nat.ble (List.length (Row.nm (rowOf op) ++ (32 : UInt8) :: (114 : UInt8) :: txt b ++ (44 : UInt8) :: (32 : UInt8) :: (114 : UInt8) :: txt c) + List.length ((44 : UInt8) :: (32 : UInt8) :: txt n))
 (9223372036854775807 : Nat))
 (Q (IV.str (Row.nm (rowOf op) ++ (32 : UInt8) :: (114 : UInt8) :: txt b ++ (44 : UInt8) :: (32 : UInt8) :: (114 : UInt8) :: txt c ++ (44 : UInt8) :: (32 : UInt8) :: txt n)) h)))))))
 (brS (Row.fm (rowOf op) == (7 : Int))
 (((-9223372036854775808 : Int) ≤ n ∧ n ≤ (9223372036854775807 : Int)) ∧
 needS (Nat.ble ((1 : Nat) + List.length ((114 : UInt8) :: txt b)) (9223372036854775807 : Nat))
 (needS (Nat.ble (List.length (Row.nm (rowOf op)) + List.length ((32 : UInt8) :: (114 : UInt8) :: txt b)) (9223372036854775807 : Nat))
 (needS (Nat.ble ((2 : Nat) + List.length ((114 : UInt8) :: txt c)) (9223372036854775807 : Nat))
 (needS (Nat.ble (List.length (Row.nm (rowOf op) ++ (32 : UInt8) :: (114 : UInt8) :: txt b) + List.length ((44 : UInt8) :: (32 : UInt8) :: (114 : UInt8) :: txt c)) (9223372036854775807 : Nat))
 (needS (Nat.ble ((2 : Nat) + List.length (txt n)) (9223372036854775807 : Nat))
 (needS
 (Nat.ble
 (List.length (Row.nm (rowOf op) ++ (32 : UInt8) :: (114 : UInt8) :: txt b ++ (44 : UInt8) :: (32 : UInt8) :: (114 : UInt8) :: txt c) + List.length ((44 : UInt8) :: (32 : UInt8) :: txt n))
 (9223372036854775807 : Nat))
 (Q (IV.str (Row.nm (rowOf op) ++ (32 : UInt8) :: (114 : UInt8) :: txt b ++ (44 : UInt8) :: (32 : UInt8) :: (114 : UInt8) :: txt c ++ (44 : UInt8) :: (32 : UInt8) :: txt n)) h)))))))
 (needS (Nat.ble ((1 : Nat) + List.length ((114 : UInt8) :: txt b)) (9223372036854775807 : Nat))
 (needS (Nat.ble (List.length (Row.nm (rowOf op)) + List.length ((32 : UInt8) :: (114 : UInt8) :: txt b)) (9223372036854775807 : Nat))
 (needS (Nat.ble ((2 : Nat) + List.length ((114 : UInt8) :: txt c)) (9223372036854775807 : Nat))
 (needS (Nat.ble (List.length (Row.nm (rowOf op) ++ (32 : UInt8) :: (114 : UInt8) :: txt b) + List.length ((44 : UInt8) :: (32 : UInt8) :: (114 : UInt8) :: txt c)) (9223372036854775807 : Nat))
 (Q (IV.str (Row.nm (rowOf op) ++ (32 : UInt8) :: (114 : UInt8) :: txt b ++ (44 : UInt8) :: (32 : UInt8) :: (114 : UInt8) :: txt c)) h))))))))))
 (brS (Row.fm (rowOf op) == (8 : Int))
 (((-9223372036854775808 : Int) ≤ n ∧ n ≤ (9223372036854775807 : Int)) ∧
 needS (Nat.ble ((1 : Nat) + List.length ((114 : UInt8) :: txt b)) (9223372036854775807 : Nat))
 (needS (Nat.ble (List.length (Row.nm (rowOf op)) + List.length ((32 : UInt8) :: (114 : UInt8) :: txt b)) (9223372036854775807 : Nat))
 (needS (Nat.ble ((2 : Nat) + List.length (txt n)) (9223372036854775807 : Nat))
 (needS (Nat.ble (List.length (Row.nm (rowOf op) ++ (32 : UInt8) :: (114 : UInt8) :: txt b) + List.length ((44 : UInt8) :: (32 : UInt8) :: txt n)) (9223372036854775807 : Nat))
 (Q (IV.str (Row.nm (rowOf op) ++ (32 : UInt8) :: (114 : UInt8) :: txt b ++ (44 : UInt8) :: (32 : UInt8) :: txt n)) h)))))
 (brS (Row.fm (rowOf op) == (5 : Int))
 (((-9223372036854775808 : Int) ≤ n ∧ n ≤ (9223372036854775807 : Int)) ∧
 needS (Nat.ble ((1 : Nat) + List.length ((114 : UInt8) :: txt b)) (9223372036854775807 : Nat))
 (needS (Nat.ble (List.length (Row.nm (rowOf op)) + List.length ((32 : UInt8) :: (114 : UInt8) :: txt b)) (9223372036854775807 : Nat))
 (needS (Nat.ble ((2 : Nat) + List.length (txt n)) (9223372036854775807 : Nat))
 (needS (Nat.ble (List.length (Row.nm (rowOf op) ++ (32 : UInt8) :: (114 : UInt8) :: txt b) + List.length ((44 : UInt8) :: (32 : UInt8) :: txt n)) (9223372036854775807 : Nat))
 (Q (IV.str (Row.nm (rowOf op) ++ (32 : UInt8) :: (114 : UInt8) :: txt b ++ (44 : UInt8) :: (32 : UInt8) :: txt n)) h)))))
 (brS (Row.fm (rowOf op) == (6 : Int))
 (((-9223372036854775808 : Int) ≤ n ∧ n ≤ (9223372036854775807 : Int)) ∧
 needS (Nat.ble ((1 : Nat) + List.length ((114 : UInt8) :: txt b)) (9223372036854775807 : Nat))
 (needS (Nat.ble (List.length (Row.nm (rowOf op)) + List.length ((32 : UInt8) :: (114 : UInt8) :: txt b)) (9223372036854775807 : Nat))
 (needS (Nat.ble ((2 : Nat) + List.length (txt n)) (9223372036854775807 : Nat))
 (needS (Nat.ble (List.length (Row.nm (rowOf op) ++ (32 : UInt8) :: (114 : UInt8) :: txt b) + List.length ((44 : UInt8) :: (32 : UInt8) :: txt n)) (9223372036854775807 : Nat))
 (Q (IV.str (Row.nm (rowOf op) ++ (32 : UInt8) :: (114 : UInt8) :: txt b ++ (44 : UInt8) :: (32 : UInt8) :: txt n)) h)))))
 (brS (Row.fm (rowOf op) == (7 : Int))
 (((-9223372036854775808 : Int) ≤ n ∧ n ≤ (9223372036854775807 : Int)) ∧
 needS (Nat.ble ((1 : Nat) + List.length ((114 : UInt8) :: txt b)) (9223372036854775807 : Nat))
 (needS (Nat.ble (List.length (Row.nm (rowOf op)) + List.length ((32 : UInt8) :: (114 : UInt8) :: txt b)) (9223372036854775807 : Nat))
 (needS (Nat.ble ((2 : Nat) + List.length (txt n)) (9223372036854775807 : Nat))
 (needS (Nat.ble (List.length (Row.nm (rowOf op) ++ (32 : UInt8) :: (114 : UInt8) :: txt b) + List.length ((44 : UInt8) :: (32 : UInt8) :: txt n)) (9223372036854775807 : Nat))
 (Q (IV.str (Row.nm (rowOf op) ++ (32 : UInt8) :: (114 : UInt8) :: txt b ++ (44 : UInt8) :: (32 : UInt8) :: txt n)) h)))))
 (needS (Nat.ble ((1 : Nat) + List.length ((114 : UInt8) :: txt b)) (9223372036854775807 : Nat))
 (needS (Nat.ble (List.length (Row.nm (rowOf op)) + List.length ((32 : UInt8) :: (114 : UInt8) :: txt b)) (9223372036854775807 : Nat))
 (Q (IV.str (Row.nm (rowOf op) ++ (32 : UInt8) :: (114 : UInt8) :: txt b)) h)))))))))
 (brS (Row.fm (rowOf op) == (4 : Int))
 (((-9223372036854775808 : Int) ≤ c ∧ c ≤ (9223372036854775807 : Int)) ∧
 needS (Nat.ble ((1 : Nat) + List.length (txt c)) (9223372036854775807 : Nat))
 (brS (Row.fm (rowOf op) == (8 : Int))
 (((-9223372036854775808 : Int) ≤ n ∧ n ≤ (9223372036854775807 : Int)) ∧
 needS (Nat.ble ((1 : Nat) + List.length ((114 : UInt8) :: txt c)) (9223372036854775807 : Nat))
 (needS (Nat.ble (List.length (Row.nm (rowOf op)) + List.length ((32 : UInt8) :: (114 : UInt8) :: txt c)) (9223372036854775807 : Nat))
 (needS (Nat.ble ((2 : Nat) + List.length (txt n)) (9223372036854775807 : Nat))
 (needS (Nat.ble (List.length (Row.nm (rowOf op) ++ (32 : UInt8) :: (114 : UInt8) :: txt c) + List.length ((44 : UInt8) :: (32 : UInt8) :: txt n)) (9223372036854775807 : Nat))
 (Q (IV.str (Row.nm (rowOf op) ++ (32 : UInt8) :: (114 : UInt8) :: txt c ++ (44 : UInt8) :: (32 : UInt8) :: txt n)) h)))))
 (brS (Row.fm (rowOf op) == (5 : Int))
 (((-9223372036854775808 : Int) ≤ n ∧ n ≤ (9223372036854775807 : Int)) ∧
 needS (Nat.ble ((1 : Nat) + List.length ((114 : UInt8) :: txt c)) (9223372036854775807 : Nat))
 (needS (Nat.ble (List.length (Row.nm (rowOf op)) + List.length ((32 : UInt8) :: (114 : UInt8) :: txt c)) (9223372036854775807 : Nat))
 (needS (Nat.ble ((2 : Nat) + List.length (txt n)) (9223372036854775807 : Nat))
 (needS (Nat.ble (List.length (Row.nm (rowOf op) ++ (32 : UInt8) :: (114 : UInt8) :: txt c) + List.length ((44 : UInt8) :: (32 : UInt8) :: txt n)) (9223372036854775807 : Nat))
 (Q (IV.str (Row.nm (rowOf op) ++ (32 : UInt8) :: (114 : UInt8) :: txt c ++ (44 : UInt8) :: (32 : UInt8) :: txt n)) h)))))
 (brS (Row.fm (rowOf op) == (6 : Int))
 (((-9223372036854775808 : Int) ≤ n ∧ n ≤ (9223372036854775807 : Int)) ∧
 needS (Nat.ble ((1 : Nat) + List.length ((114 : UInt8) :: txt c)) (9223372036854775807 : Nat))
 (needS (Nat.ble (List.length (Row.nm (rowOf op)) + List.length ((32 : UInt8) :: (114 : UInt8) :: txt c)) (9223372036854775807 : Nat))
 (needS (Nat.ble ((2 : Nat) + List.length (txt n)) (9223372036854775807 : Nat))
 (needS (Nat.ble (List.length (Row.nm (rowOf op) ++ (32 : UInt8) :: (114 : UInt8) :: txt c) + List.length ((44 : UInt8) :: (32 : UInt8) :: txt n)) (9223372036854775807 : Nat))
 (Q (IV.str (Row.nm (rowOf op) ++ (32 : UInt8) :: (114 : UInt8) :: txt c ++ (44 : UInt8) :: (32 : UInt8) :: txt n)) h)))))
 (brS (Row.fm (rowOf op) == (7 : Int))
 (((-9223372036854775808 : Int) ≤ n ∧ n ≤ (9223372036854775807 : Int)) ∧
 needS (Nat.ble ((1 : Nat) + List.length ((114 : UInt8) :: txt c)) (9223372036854775807 : Nat))
 (needS (Nat.ble (List.length (Row.nm (rowOf op)) + List.length ((32 : UInt8) :: (114 : UInt8) :: txt c)) (9223372036854775807 : Nat))
 (needS (Nat.ble ((2 : Nat) + List.length (txt n)) (9223372036854775807 : Nat))
 (needS (Nat.ble (List.length (Row.nm (rowOf op) ++ (32 : UInt8) :: (114 : UInt8) :: txt c) + List.length ((44 : UInt8) :: (32 : UInt8) :: txt n)) (9223372036854775807 : Nat))
 (Q (IV.str (Row.nm (rowOf op) ++ (32 : UInt8) :: (114 : UInt8) :: txt c ++ (44 : UInt8) :: (32 : UInt8) :: txt n)) h)))))
 (needS (Nat.ble ((1 : Nat) + List.length ((114 : UInt8) :: txt c)) (9223372036854775807 : Nat))
 (needS (Nat.ble (List.length (Row.nm (rowOf op)) + List.length ((32 : UInt8) :: (114 : UInt8) :: txt c)) (9223372036854775807 : Nat))
 (Q (IV.str (Row.nm (rowOf op) ++ (32 : UInt8) :: (114 : UInt8) :: txt c)) h))))))))
 (brS (Row.fm (rowOf op) == (8 : Int))
 (((-9223372036854775808 : Int) ≤ n ∧ n ≤ (9223372036854775807 : Int)) ∧
 needS (Nat.ble ((1 : Nat) + List.length (txt n)) (9223372036854775807 : Nat))
 (needS (Nat.ble (List.length (Row.nm (rowOf op)) + List.length ((32 : UInt8) :: txt n)) (9223372036854775807 : Nat)) (Q (IV.str (Row.nm (rowOf op) ++ (32 : UInt8) :: txt n)) h)))
 (brS (Row.fm (rowOf op) == (5 : Int))
 (((-9223372036854775808 : Int) ≤ n ∧ n ≤ (9223372036854775807 : Int)) ∧
 needS (Nat.ble ((1 : Nat) + List.length (txt n)) (9223372036854775807 : Nat))
 (needS (Nat.ble (List.length (Row.nm (rowOf op)) + List.length ((32 : UInt8) :: txt n)) (9223372036854775807 : Nat)) (Q (IV.str (Row.nm (rowOf op) ++ (32 : UInt8) :: txt n)) h)))
 (brS (Row.fm (rowOf op) == (6 : Int))
 (((-9223372036854775808 : Int) ≤ n ∧ n ≤ (9223372036854775807 : Int)) ∧
 needS (Nat.ble ((1 : Nat) + List.length (txt n)) (9223372036854775807 : Nat))
 (needS (Nat.ble (List.length (Row.nm (rowOf op)) + List.length ((32 : UInt8) :: txt n)) (9223372036854775807 : Nat)) (Q (IV.str (Row.nm (rowOf op) ++ (32 : UInt8) :: txt n)) h)))
 (brS (Row.fm (rowOf op) == (7 : Int))
 (((-9223372036854775808 : Int) ≤ n ∧ n ≤ (9223372036854775807 : Int)) ∧
 needS (Nat.ble ((1 : Nat) + List.length (txt n)) (9223372036854775807 : Nat))
 (needS (Nat.ble (List.length (Row.nm (rowOf op)) + List.length ((32 : UInt8) :: txt n)) (9223372036854775807 : Nat)) (Q (IV.str (Row.nm (rowOf op) ++ (32 : UInt8) :: txt n)) h)))
 (Q (IV.str (Row.nm (rowOf op))) h))))))))))
 (brS (Row.fm (rowOf op) == (3 : Int))
 (((-9223372036854775808 : Int) ≤ b ∧ b ≤ (9223372036854775807 : Int)) ∧
 needS (Nat.ble ((1 : Nat) + List.length (txt b)) (9223372036854775807 : Nat))
 (brS (Row.fm (rowOf op) == (4 : Int))
 (((-9223372036854775808 : Int) ≤ c ∧ c ≤ (9223372036854775807 : Int)) ∧
 needS (Nat.ble ((1 : Nat) + List.length (txt c)) (9223372036854775807 : Nat))
 (brS (Row.fm (rowOf op) == (8 : Int))
 (((-9223372036854775808 : Int) ≤ n ∧ n ≤ (9223372036854775807 : Int)) ∧
 needS (Nat.ble ((1 : Nat) + List.length ((114 : UInt8) :: txt b)) (9223372036854775807 : Nat))
 (needS (Nat.ble (List.length (Row.nm (rowOf op)) + List.length ((32 : UInt8) :: (114 : UInt8) :: txt b)) (9223372036854775807 : Nat))
 (needS (Nat.ble ((2 : Nat) + List.length ((114 : UInt8) :: txt c)) (9223372036854775807 : Nat))
 (needS (Nat.ble (List.length (Row.nm (rowOf op) ++ (32 : UInt8) :: (114 : UInt8) :: txt b) + List.length ((44 : UInt8) :: (32 : UInt8) :: (114 : UInt8) :: txt c)) (9223372036854775807 : Nat))
 (needS (Nat.ble ((2 : Nat) + List.length (txt n)) (9223372036854775807 : Nat))
 (needS
 (Nat.ble (List.length (Row.nm (rowOf op) ++ (32 : UInt8) :: (114 : UInt8) :: txt b ++ (44 : UInt8) :: (32 : UInt8) :: (114 : UInt8) :: txt c) + List.length ((44 : UInt8) :: (32 : UInt8) :: txt n))
 (9223372036854775807 : Nat))
 (Q (IV.str (Row.nm (rowOf op) ++ (32 : UInt8) :: (114 : UInt8) :: txt b ++ (44 : UInt8) :: (32 : UInt8) :: (114 : UInt8) :: txt c ++ (44 : UInt8) :: (32 : UInt8) :: txt n)) h)))))))
 (brS (Row.fm (rowOf op) == (5 : Int))
 (((-9223372036854775808 : Int) ≤ n ∧ n ≤ (9223372036854775807 : Int)) ∧
 needS (Nat.ble ((1 : Nat) + List.length ((114 : UInt8) :: txt b)) (9223372036854775807 : Nat))
 (needS (Nat.ble (List.length (Row.nm (rowOf op)) + List.length ((32 : UInt8) :: (114 : UInt8) :: txt b)) (9223372036854775807 : Nat))
 (needS (Nat.ble ((2 : Nat) + List.length ((114 : UInt8) :: txt c)) (9223372036854775807 : Nat))
 (needS (Nat.ble (List.length (Row.nm (rowOf op) ++ (32 : UInt8) :: (114 : UInt8) :: txt b) + List.length ((44 : UInt8) :: (32 : UInt8) :: (114 : UInt8) :: txt c)) (9223372036854775807 : Nat))
 (needS (Nat.ble ((2 : Nat) + List.length (txt n)) (9223372036854775807 : Nat))
 (needS
 (Nat.ble (List.length (Row.nm (rowOf op) ++ (32 : UInt8) :: (114 : UInt8) :: txt b ++ (44 : UInt8) :: (32 : UInt8) :: (114 : UInt8) :: txt c) + List.length ((44 : UInt8) :: (32 : UInt8) :: txt n))
 (9223372036854775807 : Nat))
 (Q (IV.str (Row.nm (rowOf op) ++ (32 : UInt8) :: (114 : UInt8) :: txt b ++ (44 : UInt8) :: (32 : UInt8) :: (114 : UInt8) :: txt c ++ (44 : UInt8) :: (32 : UInt8) :: txt n)) h)))))))
 (brS (Row.fm (rowOf op) == (6 : Int))
 (((-9223372036854775808 : Int) ≤ n ∧ n ≤ (9223372036854775807 : Int)) ∧
 needS (Nat.ble ((1 : Nat) + List.length ((114 : UInt8) :: txt b)) (9223372036854775807 : Nat))
 (needS (Nat.ble (List.length (Row.nm (rowOf op)) + List.length ((32 : UInt8) :: (114 : UInt8) :: txt b)) (9223372036854775807 : Nat))
 (needS (Nat.ble ((2 : Nat) + List.length ((114 : UInt8) :: txt c)) (9223372036854775807 : Nat))
 (needS (Nat.ble (List.length (Row.nm (rowOf op) ++ (32 : UInt8) :: (114 : UInt8) :: txt b) + List.length ((44 : UInt8) :: (32 : UInt8) :: (114 : UInt8) :: txt c)) (9223372036854775807 : Nat))
 (needS (Nat.ble ((2 : Nat) + List.length (txt n)) (9223372036854775807 : Nat))
 (needS
 (Nat.ble (List.length (Row.nm (rowOf op) ++ (32 : UInt8) :: (114 : UInt8) :: txt b ++ (44 : UInt8) :: (32 : UInt8) :: (114 : UInt8) :: txt c) + List.length ((44 : UInt8) :: (32 : UInt8) :: txt n))
 (9223372036854775807 : Nat))
 (Q (IV.str (Row.nm (rowOf op) ++ (32 : UInt8) :: (114 : UInt8) :: txt b ++ (44 : UInt8) :: (32 : UInt8) :: (114 : UInt8) :: txt c ++ (44 : UInt8) :: (32 : UInt8) :: txt n)) h)))))))
 (brS (Row.fm (rowOf op) == (7 : Int))
 (((-9223372036854775808 : Int) ≤ n ∧ n ≤ (9223372036854775807 : Int)) ∧
 needS (Nat.ble ((1 : Nat) + List.length ((114 : UInt8) :: txt b)) (9223372036854775807 : Nat))
 (needS (Nat.ble (List.length (Row.nm (rowOf op)) + List.length ((32 : UInt8) :: (114 : UInt8) :: txt b)) (9223372036854775807 : Nat))
 (needS (Nat.ble ((2 : Nat) + List.length ((114 : UInt8) :: txt c)) (9223372036854775807 : Nat))
 (needS (Nat.ble (List.length (Row.nm (rowOf op) ++ (32 : UInt8) :: (114 : UInt8) :: txt b) + List.length ((44 : UInt8) :: (32 : UInt8) :: (114 : UInt8) :: txt c)) (9223372036854775807 : Nat))
 (needS (Nat.ble ((2 : Nat) + List.length (txt n)) (9223372036854775807 : Nat))
 (needS
 (Nat.ble (List.length (Row.nm (rowOf op) ++ (32 : UInt8) :: (114 : UInt8) :: txt b ++ (44 : UInt8) :: (32 : UInt8) :: (114 : UInt8) :: txt c) + List.length ((44 : UInt8) :: (32 : UInt8) :: txt n))
 (9223372036854775807 : Nat))
 (Q (IV.str (Row.nm (rowOf op) ++ (32 : UInt8) :: (114 : UInt8) :: txt b ++ (44 : UInt8) :: (32 : UInt8) :: (114 : UInt8) :: txt c ++ (44 : UInt8) :: (32 : UInt8) :: txt n)) h)))))))
 (needS (Nat.ble ((1 : Nat) + List.length ((114 : UInt8) :: txt b)) (9223372036854775807 : Nat))
 (needS (Nat.ble (List.length (Row.nm (rowOf op)) + List.length ((32 : UInt8) :: (114 : UInt8) :: txt b)) (9223372036854775807 : Nat))
 (needS (Nat.ble ((2 : Nat) + List.length ((114 : UInt8) :: txt c)) (9223372036854775807 : Nat))
 (needS (Nat.ble (List.length (Row.nm (rowOf op) ++ (32 : UInt8) :: (114 : UInt8) :: txt b) + List.length ((44 : UInt8) :: (32 : UInt8) :: (114 : UInt8) :: txt c)) (9223372036854775807 : Nat))
 (Q (IV.str (Row.nm (rowOf op) ++ (32 : UInt8) :: (114 : UInt8) :: txt b ++ (44 : UInt8) :: (32 : UInt8) :: (114 : UInt8) :: txt c)) h))))))))))
 (brS (Row.fm (rowOf op) == (8 : Int))
 (((-9223372036854775808 : Int) ≤ n ∧ n ≤ (9223372036854775807 : Int)) ∧
 needS (Nat.ble ((1 : Nat) + List.length ((114 : UInt8) :: txt b)) (9223372036854775807 : Nat))
 (needS (Nat.ble (List.length (Row.nm (rowOf op)) + List.length ((32 : UInt8) :: (114 : UInt8) :: txt b)) (9223372036854775807 : Nat))
 (needS (Nat.ble ((2 : Nat) + List.length (txt n)) (9223372036854775807 : Nat))
 (needS (Nat.ble (List.length (Row.nm (rowOf op) ++ (32 : UInt8) :: (114 : UInt8) :: txt b) + List.length ((44 : UInt8) :: (32 : UInt8) :: txt n)) (9223372036854775807 : Nat))
 (Q (IV.str (Row.nm (rowOf op) ++ (32 : UInt8) :: (114 : UInt8) :: txt b ++ (44 : UInt8) :: (32 : UInt8) :: txt n)) h)))))
 (brS (Row.fm (rowOf op) == (5 : Int))
 (((-9223372036854775808 : Int) ≤ n ∧ n ≤ (9223372036854775807 : Int)) ∧
 needS (Nat.ble ((1 : Nat) + List.length ((114 : UInt8) :: txt b)) (9223372036854775807 : Nat))
 (needS (Nat.ble (List.length (Row.nm (rowOf op)) + List.length ((32 : UInt8) :: (114 : UInt8) :: txt b)) (9223372036854775807 : Nat))
 (needS (Nat.ble ((2 : Nat) + List.length (txt n)) (9223372036854775807 : Nat))
 (needS (Nat.ble (List.length (Row.nm (rowOf op) ++ (32 : UInt8) :: (114 : UInt8) :: txt b) + List.length ((44 : UInt8) :: (32 : UInt8) :: txt n)) (9223372036854775807 : Nat))
 (Q (IV.str (Row.nm (rowOf op) ++ (32 : UInt8) :: (114 : UInt8) :: txt b ++ (44 : UInt8) :: (32 : UInt8) :: txt n)) h)))))
 (brS (Row.fm (rowOf op) == (6 : Int))
 (((-9223372036854775808 : Int) ≤ n ∧ n ≤ (9223372036854775807 : Int)) ∧
 needS (Nat.ble ((1 : Nat) + List.length ((114 : UInt8) :: txt b)) (9223372036854775807 : Nat))
 (needS (Nat.ble (List.length (Row.nm (rowOf op)) + List.length ((32 : UInt8) :: (114 : UInt8) :: txt b)) (9223372036854775807 : Nat))
 (needS (Nat.ble ((2 : Nat) + List.length (txt n)) (9223372036854775807 : Nat))
 (needS (Nat.ble (List.length (Row.nm (rowOf op) ++ (32 : UInt8) :: (114 : UInt8) :: txt b) + List.length ((44 : UInt8) :: (32 : UInt8) :: txt n)) (9223372036854775807 : Nat))
 (Q (IV.str (Row.nm (rowOf op) ++ (32 : UInt8) :: (114 : UInt8) :: txt b ++ (44 : UInt8) :: (32 : UInt8) :: txt n)) h)))))
 (brS (Row.fm (rowOf op) == (7 : Int))
 (((-9223372036854775808 : Int) ≤ n ∧ n ≤ (9223372036854775807 : Int)) ∧
 needS (Nat.ble ((1 : Nat) + List.length ((114 : UInt8) :: txt b)) (9223372036854775807 : Nat))
 (needS (Nat.ble (List.length (Row.nm (rowOf op)) + List.length ((32 : UInt8) :: (114 : UInt8) :: txt b)) (9223372036854775807 : Nat))
 (needS (Nat.ble ((2 : Nat) + List.length (txt n)) (9223372036854775807 : Nat))
 (needS (Nat.ble (List.length (Row.nm (rowOf op) ++ (32 : UInt8) :: (114 : UInt8) :: txt b) + List.length ((44 : UInt8) :: (32 : UInt8) :: txt n)) (9223372036854775807 : Nat))
 (Q (IV.str (Row.nm (rowOf op) ++ (32 : UInt8) :: (114 : UInt8) :: txt b ++ (44 : UInt8) :: (32 : UInt8) :: txt n)) h)))))
 (needS (Nat.ble ((1 : Nat) + List.length ((114 : UInt8) :: txt b)) (9223372036854775807 : Nat))
 (needS (Nat.ble (List.length (Row.nm (rowOf op)) + List.length ((32 : UInt8) :: (114 : UInt8) :: txt b)) (9223372036854775807 : Nat))
 (Q (IV.str (Row.nm (rowOf op) ++ (32 : UInt8) :: (114 : UInt8) :: txt b)) h)))))))))
 (brS (Row.fm (rowOf op) == (4 : Int))
 (((-9223372036854775808 : Int) ≤ b ∧ b ≤ (9223372036854775807 : Int)) ∧
 needS (Nat.ble ((1 : Nat) + List.length (txt b)) (9223372036854775807 : Nat))
 (brS (Row.fm (rowOf op) == (4 : Int))
 (((-9223372036854775808 : Int) ≤ c ∧ c ≤ (9223372036854775807 : Int)) ∧
 needS (Nat.ble ((1 : Nat) + List.length (txt c)) (9223372036854775807 : Nat))
 (brS (Row.fm (rowOf op) == (8 : Int))
 (((-9223372036854775808 : Int) ≤ n ∧ n ≤ (9223372036854775807 : Int)) ∧
 needS (Nat.ble ((1 : Nat) + List.length ((114 : UInt8) :: txt b)) (9223372036854775807 : Nat))
 (needS (Nat.ble (List.length (Row.nm (rowOf op)) + List.length ((32 : UInt8) :: (114 : UInt8) :: txt b)) (9223372036854775807 : Nat))
 (needS (Nat.ble ((2 : Nat) + List.length ((114 : UInt8) :: txt c)) (9223372036854775807 : Nat))
 (needS (Nat.ble (List.length (Row.nm (rowOf op) ++ (32 : UInt8) :: (114 : UInt8) :: txt b) + List.length ((44 : UInt8) :: (32 : UInt8) :: (114 : UInt8) :: txt c)) (9223372036854775807 : Nat))
 (needS (Nat.ble ((2 : Nat) + List.length (txt n)) (9223372036854775807 : Nat))
 (needS
 (Nat.ble (List.length (Row.nm (rowOf op) ++ (32 : UInt8) :: (114 : UInt8) :: txt b ++ (44 : UInt8) :: (32 : UInt8) :: (114 : UInt8) :: txt c) + List.length ((44 : UInt8) :: (32 : UInt8) :: txt n))
 (9223372036854775807 : Nat))
 (Q (IV.str (Row.nm (rowOf op) ++ (32 : UInt8) :: (114 : UInt8) :: txt b ++ (44 : UInt8) :: (32 : UInt8) :: (114 : UInt8) :: txt c ++ (44 : UInt8) :: (32 : UInt8) :: txt n)) h)))))))
 (brS (Row.fm (rowOf op) == (5 : Int))
 (((-9223372036854775808 : Int) ≤ n ∧ n ≤ (9223372036854775807 : Int)) ∧
 needS (Nat.ble ((1 : Nat) + List.length ((114 : UInt8) :: txt b)) (9223372036854775807 : Nat))
 (needS (Nat.ble (List.length (Row.nm (rowOf op)) + List.length ((32 : UInt8) :: (114 : UInt8) :: txt b)) (9223372036854775807 : Nat))
 (needS (Nat.ble ((2 : Nat) + List.length ((114 : UInt8) :: txt c)) (9223372036854775807 : Nat))
 (needS (Nat.ble (List.length (Row.nm (rowOf op) ++ (32 : UInt8) :: (114 : UInt8) :: txt b) + List.length ((44 : UInt8) :: (32 : UInt8) :: (114 : UInt8) :: txt c)) (9223372036854775807 : Nat))
 (needS (Nat.ble ((2 : Nat) + List.length (txt n)) (9223372036854775807 : Nat))
 (needS
 (Nat.ble (List.length (Row.nm (rowOf op) ++ (32 : UInt8) :: (114 : UInt8) :: txt b ++ (44 : UInt8) :: (32 : UInt8) :: (114 : UInt8) :: txt c) + List.length ((44 : UInt8) :: (32 : UInt8) :: txt n))
 (9223372036854775807 : Nat))
 (Q (IV.str (Row.nm (rowOf op) ++ (32 : UInt8) :: (114 : UInt8) :: txt b ++ (44 : UInt8) :: (32 : UInt8) :: (114 : UInt8) :: txt c ++ (44 : UInt8) :: (32 : UInt8) :: txt n)) h)))))))
 (brS (Row.fm (rowOf op) == (6 : Int))
 (((-9223372036854775808 : Int) ≤ n ∧ n ≤ (9223372036854775807 : Int)) ∧
 needS (Nat.ble ((1 : Nat) + List.length ((114 : UInt8) :: txt b)) (9223372036854775807 : Nat))
 (needS (Nat.ble (List.length (Row.nm (rowOf op)) + List.length ((32 : UInt8) :: (114 : UInt8) :: txt b)) (9223372036854775807 : Nat))
 (needS (Nat.ble ((2 : Nat) + List.length ((114 : UInt8) :: txt c)) (9223372036854775807 : Nat))
 (needS (Nat.ble (List.length (Row.nm (rowOf op) ++ (32 : UInt8) :: (114 : UInt8) :: txt b) + List.length ((44 : UInt8) :: (32 : UInt8) :: (114 : UInt8) :: txt c)) (9223372036854775807 : Nat))
 (needS (Nat.ble ((2 : Nat) + List.length (txt n)) (9223372036854775807 : Nat))
 (needS
 (Nat.ble (List.length (Row.nm (rowOf op) ++ (32 : UInt8) :: (114 : UInt8) :: txt b ++ (44 : UInt8) :: (32 : UInt8) :: (114 : UInt8) :: txt c) + List.length ((44 : UInt8) :: (32 : UInt8) :: txt n))
 (9223372036854775807 : Nat))
 (Q (IV.str (Row.nm (rowOf op) ++ (32 : UInt8) :: (114 : UInt8) :: txt b ++ (44 : UInt8) :: (32 : UInt8) :: (114 : UInt8) :: txt c ++ (44 : UInt8) :: (32 : UInt8) :: txt n)) h)))))))
 (brS (Row.fm (rowOf op) == (7 : Int))
 (((-9223372036854775808 : Int) ≤ n ∧ n ≤ (9223372036854775807 : Int)) ∧
 needS (Nat.ble ((1 : Nat) + List.length ((114 : UInt8) :: txt b)) (9223372036854775807 : Nat))
 (needS (Nat.ble (List.length (Row.nm (rowOf op)) + List.length ((32 : UInt8) :: (114 : UInt8) :: txt b)) (9223372036854775807 : Nat))
 (needS (Nat.ble ((2 : Nat) + List.length ((114 : UInt8) :: txt c)) (9223372036854775807 : Nat))
 (needS (Nat.ble (List.length (Row.nm (rowOf op) ++ (32 : UInt8) :: (114 : UInt8) :: txt b) + List.length ((44 : UInt8) :: (32 : UInt8) :: (114 : UInt8) :: txt c)) (9223372036854775807 : Nat))
 (needS (Nat.ble ((2 : Nat) + List.length (txt n)) (9223372036854775807 : Nat))
 (needS
 (Nat.ble (List.length (Row.nm (rowOf op) ++ (32 : UInt8) :: (114 : UInt8) :: txt b ++ (44 : UInt8) :: (32 : UInt8) :: (114 : UInt8) :: txt c) + List.length ((44 : UInt8) :: (32 : UInt8) :: txt n))
 (9223372036854775807 : Nat))
 (Q (IV.str (Row.nm (rowOf op) ++ (32 : UInt8) :: (114 : UInt8) :: txt b ++ (44 : UInt8) :: (32 : UInt8) :: (114 : UInt8) :: txt c ++ (44 : UInt8) :: (32 : UInt8) :: txt n)) h)))))))
 (needS (Nat.ble ((1 : Nat) + List.length ((114 : UInt8) :: txt b)) (9223372036854775807 : Nat))
 (needS (Nat.ble (List.length (Row.nm (rowOf op)) + List.length ((32 : UInt8) :: (114 : UInt8) :: txt b)) (9223372036854775807 : Nat))
 (needS (Nat.ble ((2 : Nat) + List.length ((114 : UInt8) :: txt c)) (9223372036854775807 : Nat))
 (needS (Nat.ble (List.length (Row.nm (rowOf op) ++ (32 : UInt8) :: (114 : UInt8) :: txt b) + List.length ((44 : UInt8) :: (32 : UInt8) :: (114 : UInt8) :: txt c)) (9223372036854775807 : Nat))
 (Q (IV.str (Row.nm (rowOf op) ++ (32 : UInt8) :: (114 : UInt8) :: txt b ++ (44 : UInt8) :: (32 : UInt8) :: (114 : UInt8) :: txt c)) h))))))))))
 (brS (Row.fm (rowOf op) == (8 : Int))
 (((-9223372036854775808 : Int) ≤ n ∧ n ≤ (9223372036854775807 : Int)) ∧
 needS (Nat.ble ((1 : Nat) + List.length ((114 : UInt8) :: txt b)) (9223372036854775807 : Nat))
 (needS (Nat.ble (List.length (Row.nm (rowOf op)) + List.length ((32 : UInt8) :: (114 : UInt8) :: txt b)) (9223372036854775807 : Nat))
 (needS (Nat.ble ((2 : Nat) + List.length (txt n)) (9223372036854775807 : Nat))
 (needS (Nat.ble (List.length (Row.nm (rowOf op) ++ (32 : UInt8) :: (114 : UInt8) :: txt b) + List.length ((44 : UInt8) :: (32 : UInt8) :: txt n)) (9223372036854775807 : Nat))
 (Q (IV.str (Row.nm (rowOf op) ++ (32 : UInt8) :: (114 : UInt8) :: txt b ++ (44 : UInt8) :: (32 : UInt8) :: txt n)) h)))))
 (brS (Row.fm (rowOf op) == (5 : Int))
 (((-9223372036854775808 : Int) ≤ n ∧ n ≤ (9223372036854775807 : Int)) ∧
 needS (Nat.ble ((1 : Nat) + List.length ((114 : UInt8) :: txt b)) (9223372036854775807 : Nat))
 (needS (Nat.ble (List.length (Row.nm (rowOf op)) + List.length ((32 : UInt8) :: (114 : UInt8) :: txt b)) (9223372036854775807 : Nat))
 (needS (Nat.ble ((2 : Nat) + List.length (txt n)) (9223372036854775807 : Nat))
 (needS (Nat.ble (List.length (Row.nm (rowOf op) ++ (32 : UInt8) :: (114 : UInt8) :: txt b) + List.length ((44 : UInt8) :: (32 : UInt8) :: txt n)) (9223372036854775807 : Nat))
 (Q (IV.str (Row.nm (rowOf op) ++ (32 : UInt8) :: (114 : UInt8) :: txt b ++ (44 : UInt8) :: (32 : UInt8) :: txt n)) h)))))
 (brS (Row.fm (rowOf op) == (6 : Int))
 (((-9223372036854775808 : Int) ≤ n ∧ n ≤ (9223372036854775807 : Int)) ∧
 needS (Nat.ble ((1 : Nat) + List.length ((114 : UInt8) :: txt b)) (9223372036854775807 : Nat))
 (needS (Nat.ble (List.length (Row.nm (rowOf op)) + List.length ((32 : UInt8) :: (114 : UInt8) :: txt b)) (9223372036854775807 : Nat))
 (needS (Nat.ble ((2 : Nat) + List.length (txt n)) (9223372036854775807 : Nat))
 (needS (Nat.ble (List.length (Row.nm (rowOf op) ++ (32 : UInt8) :: (114 : UInt8) :: txt b) + List.length ((44 : UInt8) :: (32 : UInt8) :: txt n)) (9223372036854775807 : Nat))
 (Q (IV.str (Row.nm (rowOf op) ++ (32 : UInt8) :: (114 : UInt8) :: txt b ++ (44 : UInt8) :: (32 : UInt8) :: txt n)) h)))))
 (brS (Row.fm (rowOf op) == (7 : Int))
 (((-9223372036854775808 : Int) ≤ n ∧ n ≤ (9223372036854775807 : Int)) ∧
 needS (Nat.ble ((1 : Nat) + List.length ((114 : UInt8) :: txt b)) (9223372036854775807 : Nat))
 (needS (Nat.ble (List.length (Row.nm (rowOf op)) + List.length ((32 : UInt8) :: (114 : UInt8) :: txt b)) (9223372036854775807 : Nat))
 (needS (Nat.ble ((2 : Nat) + List.length (txt n)) (9223372036854775807 : Nat))
 (needS (Nat.ble (List.length (Row.nm (rowOf op) ++ (32 : UInt8) :: (114 : UInt8) :: txt b) + List.length ((44 : UInt8) :: (32 : UInt8) :: txt n)) (9223372036854775807 : Nat))
 (Q (IV.str (Row.nm (rowOf op) ++ (32 : UInt8) :: (114 : UInt8) :: txt b ++ (44 : UInt8) :: (32 : UInt8) :: txt n)) h)))))
 (needS (Nat.ble ((1 : Nat) + List.length ((114 : UInt8) :: txt b)) (9223372036854775807 : Nat))
 (needS (Nat.ble (List.length (Row.nm (rowOf op)) + List.length ((32 : UInt8) :: (114 : UInt8) :: txt b)) (9223372036854775807 : Nat))
 (Q (IV.str (Row.nm (rowOf op) ++ (32 : UInt8) :: (114 : UInt8) :: txt b)) h)))))))))
 (brS (Row.fm (rowOf op) == (7 : Int))
 (((-9223372036854775808 : Int) ≤ b ∧ b ≤ (9223372036854775807 : Int)) ∧
 needS (Nat.ble ((1 : Nat) + List.length (txt b)) (9223372036854775807 : Nat))
 (brS (Row.fm (rowOf op) == (4 : Int))
 (((-9223372036854775808 : Int) ≤ c ∧ c ≤ (9223372036854775807 : Int)) ∧
 needS (Nat.ble ((1 : Nat) + List.length (txt c)) (9223372036854775807 : Nat))
 (brS (Row.fm (rowOf op) == (8 : Int))
 (((-9223372036854775808 : Int) ≤ n ∧ n ≤ (9223372036854775807 : Int)) ∧
 needS (Nat.ble ((1 : Nat) + List.length ((114 : UInt8) :: txt b)) (9223372036854775807 : Nat))
 (needS (Nat.ble (List.length (Row.nm (rowOf op)) + List.length ((32 : UInt8) :: (114 : UInt8) :: txt b)) (9223372036854775807 : Nat))
 (needS (Nat.ble ((2 : Nat) + List.length ((114 : UInt8) :: txt c)) (9223372036854775807 : Nat))
 (needS (Nat.ble (List.length (Row.nm (rowOf op) ++ (32 : UInt8) :: (114 : UInt8) :: txt b) + List.length ((44 : UInt8) :: (32 : UInt8) :: (114 : UInt8) :: txt c)) (9223372036854775807 : Nat))
 (needS (Nat.ble ((2 : Nat) + List.length (txt n)) (9223372036854775807 : Nat))
 (needS
 (Nat.ble (List.length (Row.nm (rowOf op) ++ (32 : UInt8) :: (114 : UInt8) :: txt b ++ (44 : UInt8) :: (32 : UInt8) :: (114 : UInt8) :: txt c) + List.length ((44 : UInt8) :: (32 : UInt8) :: txt n))
 (9223372036854775807 : Nat))
 (Q (IV.str (Row.nm (rowOf op) ++ (32 : UInt8) :: (114 : UInt8) :: txt b ++ (44 : UInt8) :: (32 : UInt8) :: (114 : UInt8) :: txt c ++ (44 : UInt8) :: (32 : UInt8) :: txt n)) h)))))))
 (brS (Row.fm (rowOf op) == (5 : Int))
 (((-9223372036854775808 : Int) ≤ n ∧ n ≤ (9223372036854775807 : Int)) ∧
 needS (Nat.ble ((1 : Nat) + List.length ((114 : UInt8) :: txt b)) (9223372036854775807 : Nat))
 (needS (Nat.ble (List.length (Row.nm (rowOf op)) + List.length ((32 : UInt8) :: (114 : UInt8) :: txt b)) (9223372036854775807 : Nat))
 (needS (Nat.ble ((2 : Nat) + List.length ((114 : UInt8) :: txt c)) (9223372036854775807 : Nat))
 (needS (Nat.ble (List.length (Row.nm (rowOf op) ++ (32 : UInt8) :: (114 : UInt8) :: txt b) + List.length ((44 : UInt8) :: (32 : UInt8) :: (114 : UInt8) :: txt c)) (9223372036854775807 : Nat))
 (needS (Nat.ble ((2 : Nat) + List.length (txt n)) (9223372036854775807 : Nat))
 (needS
 (Nat.ble (List.length (Row.nm (rowOf op) ++ (32 : UInt8) :: (114 : UInt8) :: txt b ++ (44 : UInt8) :: (32 : UInt8) :: (114 : UInt8) :: txt c) + List.length ((44 : UInt8) :: (32 : UInt8) :: txt n))
 (9223372036854775807 : Nat))
 (Q (IV.str (Row.nm (rowOf op) ++ (32 : UInt8) :: (114 : UInt8) :: txt b ++ (44 : UInt8) :: (32 : UInt8) :: (114 : UInt8) :: txt c ++ (44 : UInt8) :: (32 : UInt8) :: txt n)) h)))))))
 (brS (Row.fm (rowOf op) == (6 : Int))
 (((-9223372036854775808 : Int) ≤ n ∧ n ≤ (9223372036854775807 : Int)) ∧
 needS (Nat.ble ((1 : Nat) + List.length ((114 : UInt8) :: txt b)) (9223372036854775807 : Nat))
 (needS (Nat.ble (List.length (Row.nm (rowOf op)) + List.length ((32 : UInt8) :: (114 : UInt8) :: txt b)) (9223372036854775807 : Nat))
 (needS (Nat.ble ((2 : Nat) + List.length ((114 : UInt8) :: txt c)) (9223372036854775807 : Nat))
 (needS (Nat.ble (List.length (Row.nm (rowOf op) ++ (32 : UInt8) :: (114 : UInt8) :: txt b) + List.length ((44 : UInt8) :: (32 : UInt8) :: (114 : UInt8) :: txt c)) (9223372036854775807 : Nat))
 (needS (Nat.ble ((2 : Nat) + List.length (txt n)) (9223372036854775807 : Nat))
 (needS
 (Nat.ble (List.length (Row.nm (rowOf op) ++ (32 : UInt8) :: (114 : UInt8) :: txt b ++ (44 : UInt8) :: (32 : UInt8) :: (114 : UInt8) :: txt c) + List.length ((44 : UInt8) :: (32 : UInt8) :: txt n))
 (9223372036854775807 : Nat))
 (Q (IV.str (Row.nm (rowOf op) ++ (32 : UInt8) :: (114 : UInt8) :: txt b ++ (44 : UInt8) :: (32 : UInt8) :: (114 : UInt8) :: txt c ++ (44 : UInt8) :: (32 : UInt8) :: txt n)) h)))))))
 (brS (Row.fm (rowOf op) == (7 : Int))
 (((-9223372036854775808 : Int) ≤ n ∧ n ≤ (9223372036854775807 : Int)) ∧
 needS (Nat.ble ((1 : Nat) + List.length ((114 : UInt8) :: txt b)) (9223372036854775807 : Nat))
 (needS (Nat.ble (List.length (Row.nm (rowOf op)) + List.length ((32 : UInt8) :: (114 : UInt8) :: txt b)) (9223372036854775807 : Nat))
 (needS (Nat.ble ((2 : Nat) + List.length ((114 : UInt8) :: txt c)) (9223372036854775807 : Nat))
 (needS (Nat.ble (List.length (Row.nm (rowOf op) ++ (32 : UInt8) :: (114 : UInt8) :: txt b) + List.length ((44 : UInt8) :: (32 : UInt8) :: (114 : UInt8) :: txt c)) (9223372036854775807 : Nat))
 (needS (Nat.ble ((2 : Nat) + List.length (txt n)) (9223372036854775807 : Nat))
 (needS
 (Nat.ble (List.length (Row.nm (rowOf op) ++ (32 : UInt8) :: (114 : UInt8) :: txt b ++ (44 : UInt8) :: (32 : UInt8) :: (114 : UInt8) :: txt c) + List.length ((44 : UInt8) :: (32 : UInt8) :: txt n))
 (9223372036854775807 : Nat))
 (Q (IV.str (Row.nm (rowOf op) ++ (32 : UInt8) :: (114 : UInt8) :: txt b ++ (44 : UInt8) :: (32 : UInt8) :: (114 : UInt8) :: txt c ++ (44 : UInt8) :: (32 : UInt8) :: txt n)) h)))))))
 (needS (Nat.ble ((1 : Nat) + List.length ((114 : UInt8) :: txt b)) (9223372036854775807 : Nat))
 (needS (Nat.ble (List.length (Row.nm (rowOf op)) + List.length ((32 : UInt8) :: (114 : UInt8) :: txt b)) (9223372036854775807 : Nat))
 (needS (Nat.ble ((2 : Nat) + List.length ((114 : UInt8) :: txt c)) (9223372036854775807 : Nat))
 (needS (Nat.ble (List.length (Row.nm (rowOf op) ++ (32 : UInt8) :: (114 : UInt8) :: txt b) + List.length ((44 : UInt8) :: (32 : UInt8) :: (114 : UInt8) :: txt c)) (9223372036854775807 : Nat))
 (Q (IV.str (Row.nm (rowOf op) ++ (32 : UInt8) :: (114 : UInt8) :: txt b ++ (44 : UInt8) :: (32 : UInt8) :: (114 : UInt8) :: txt c)) h))))))))))
 (brS (Row.fm (rowOf op) == (8 : Int))
 (((-9223372036854775808 : Int) ≤ n ∧ n ≤ (9223372036854775807 : Int)) ∧
 needS (Nat.ble ((1 : Nat) + List.length ((114 : UInt8) :: txt b)) (9223372036854775807 : Nat))
 (needS (Nat.ble (List.length (Row.nm (rowOf op)) + List.length ((32 : UInt8) :: (114 : UInt8) :: txt b)) (9223372036854775807 : Nat))
 (needS (Nat.ble ((2 : Nat) + List.length (txt n)) (9223372036854775807 : Nat))
 (needS (Nat.ble (List.length (Row.nm (rowOf op) ++ (32 : UInt8) :: (114 : UInt8) :: txt b) + List.length ((44 : UInt8) :: (32 : UInt8) :: txt n)) (9223372036854775807 : Nat))
 (Q (IV.str (Row.nm (rowOf op) ++ (32 : UInt8) :: (114 : UInt8) :: txt b ++ (44 : UInt8) :: (32 : UInt8) :: txt n)) h)))))
 (brS (Row.fm (rowOf op) == (5 : Int))
 (((-9223372036854775808 : Int) ≤ n ∧ n ≤ (9223372036854775807 : Int)) ∧
 needS (Nat.ble ((1 : Nat) + List.length ((114 : UInt8) :: txt b)) (9223372036854775807 : Nat))
 (needS (Nat.ble (List.length (Row.nm (rowOf op)) + List.length ((32 : UInt8) :: (114 : UInt8) :: txt b)) (9223372036854775807 : Nat))
 (needS (Nat.ble ((2 : Nat) + List.length (txt n)) (9223372036854775807 : Nat))
 (needS (Nat.ble (List.length (Row.nm (rowOf op) ++ (32 : UInt8) :: (114 : UInt8) :: txt b) + List.length ((44 : UInt8) :: (32 : UInt8) :: txt n)) (9223372036854775807 : Nat))
 (Q (IV.str (Row.nm (rowOf op) ++ (32 : UInt8) :: (114 : UInt8) :: txt b ++ (44 : UInt8) :: (32 : UInt8) :: txt n)) h)))))
 (brS (Row.fm (rowOf op) == (6 : Int))
 (((-9223372036854775808 : Int) ≤ n ∧ n ≤ (9223372036854775807 : Int)) ∧
 needS (Nat.ble ((1 : Nat) + List.length ((114 : UInt8) :: txt b)) (9223372036854775807 : Nat))
 (needS (Nat.ble (List.length (Row.nm (rowOf op)) + List.length ((32 : UInt8) :: (114 : UInt8) :: txt b)) (9223372036854775807 : Nat))
 (needS (Nat.ble ((2 : Nat) + List.length (txt n)) (9223372036854775807 : Nat))
 (needS (Nat.ble (List.length (Row.nm (rowOf op) ++ (32 : UInt8) :: (114 : UInt8) :: txt b) + List.length ((44 : UInt8) :: (32 : UInt8) :: txt n)) (9223372036854775807 : Nat))
 (Q (IV.str (Row.nm (rowOf op) ++ (32 : UInt8) :: (114 : UInt8) :: txt b ++ (44 : UInt8) :: (32 : UInt8) :: txt n)) h)))))
 (brS (Row.fm (rowOf op) == (7 : Int))
 (((-9223372036854775808 : Int) ≤ n ∧ n ≤ (9223372036854775807 : Int)) ∧
 needS (Nat.ble ((1 : Nat) + List.length ((114 : UInt8) :: txt b)) (9223372036854775807 : Nat))
 (needS (Nat.ble (List.length (Row.nm (rowOf op)) + List.length ((32 : UInt8) :: (114 : UInt8) :: txt b)) (9223372036854775807 : Nat))
 (needS (Nat.ble ((2 : Nat) + List.length (txt n)) (9223372036854775807 : Nat))
 (needS (Nat.ble (List.length (Row.nm (rowOf op) ++ (32 : UInt8) :: (114 : UInt8) :: txt b) + List.length ((44 : UInt8) :: (32 : UInt8) :: txt n)) (9223372036854775807 : Nat))
 (Q (IV.str (Row.nm (rowOf op) ++ (32 : UInt8) :: (114 : UInt8) :: txt b ++ (44 : UInt8) :: (32 : UInt8) :: txt n)) h)))))
 (needS (Nat.ble ((1 : Nat) + List.length ((114 : UInt8) :: txt b)) (9223372036854775807 : Nat))
 (needS (Nat.ble (List.length (Row.nm (rowOf op)) + List.length ((32 : UInt8) :: (114 : UInt8) :: txt b)) (9223372036854775807 : Nat))
 (Q (IV.str (Row.nm (rowOf op) ++ (32 : UInt8) :: (114 : UInt8) :: txt b)) h)))))))))
 (brS (Row.fm (rowOf op) == (4 : Int))
 (((-9223372036854775808 : Int) ≤ c ∧ c ≤ (9223372036854775807 : Int)) ∧
 needS (Nat.ble ((1 : Nat) + List.length (txt c)) (9223372036854775807 : Nat))
 (brS (Row.fm (rowOf op) == (8 : Int))
 (((-9223372036854775808 : Int) ≤ n ∧ n ≤ (9223372036854775807 : Int)) ∧
 needS (Nat.ble ((1 : Nat) + List.length ((114 : UInt8) :: txt c)) (9223372036854775807 : Nat))
 (needS (Nat.ble (List.length (Row.nm (rowOf op)) + List.length ((32 : UInt8) :: (114 : UInt8) :: txt c)) (9223372036854775807 : Nat))
 (needS (Nat.ble ((2 : Nat) + List.length (txt n)) (9223372036854775807 : Nat))
 (needS (Nat.ble (List.length (Row.nm (rowOf op) ++ (32 : UInt8) :: (114 : UInt8) :: txt c) + List.length ((44 : UInt8) :: (32 : UInt8) :: txt n)) (9223372036854775807 : Nat))
 (Q (IV.str (Row.nm (rowOf op) ++ (32 : UInt8) :: (114 : UInt8) :: txt c ++ (44 : UInt8) :: (32 : UInt8) :: txt n)) h)))))
 (brS (Row.fm (rowOf op) == (5 : Int))
 (((-9223372036854775808 : Int) ≤ n ∧ n ≤ (9223372036854775807 : Int)) ∧
 needS (Nat.ble ((1 : Nat) + List.length ((114 : UInt8) :: txt c)) (9223372036854775807 : Nat))
 (needS (Nat.ble (List.length (Row.nm (rowOf op)) + List.length ((32 : UInt8) :: (114 : UInt8) :: txt c)) (9223372036854775807 : Nat))
 (needS (Nat.ble ((2 : Nat) + List.length (txt n)) (9223372036854775807 : Nat))
 (needS (Nat.ble (List.length (Row.nm (rowOf op) ++ (32 : UInt8) :: (114 : UInt8) :: txt c) + List.length ((44 : UInt8) :: (32 : UInt8) :: txt n)) (9223372036854775807 : Nat))
 (Q (IV.str (Row.nm (rowOf op) ++ (32 : UInt8) :: (114 : UInt8) :: txt c ++ (44 : UInt8) :: (32 : UInt8) :: txt n)) h)))))
 (brS (Row.fm (rowOf op) == (6 : Int))
 (((-9223372036854775808 : Int) ≤ n ∧ n ≤ (9223372036854775807 : Int)) ∧
 needS (Nat.ble ((1 : Nat) + List.length ((114 : UInt8) :: txt c)) (9223372036854775807 : Nat))
 (needS (Nat.ble (List.length (Row.nm (rowOf op)) + List.length ((32 : UInt8) :: (114 : UInt8) :: txt c)) (9223372036854775807 : Nat))
 (needS (Nat.ble ((2 : Nat) + List.length (txt n)) (9223372036854775807 : Nat))
 (needS (Nat.ble (List.length (Row.nm (rowOf op) ++ (32 : UInt8) :: (114 : UInt8) :: txt c) + List.length ((44 : UInt8) :: (32 : UInt8) :: txt n)) (9223372036854775807 : Nat))
 (Q (IV.str (Row.nm (rowOf op) ++ (32 : UInt8) :: (114 : UInt8) :: txt c ++ (44 : UInt8) :: (32 : UInt8) :: txt n)) h)))))
 (brS (Row.fm (rowOf op) == (7 : Int))
 (((-9223372036854775808 : Int) ≤ n ∧ n ≤ (9223372036854775807 : Int)) ∧
 needS (Nat.ble ((1 : Nat) + List.length ((114 : UInt8) :: txt c)) (9223372036854775807 : Nat))
 (needS (Nat.ble (List.length (Row.nm (rowOf op)) + List.length ((32 : UInt8) :: (114 : UInt8) :: txt c)) (9223372036854775807 : Nat))
 (needS (Nat.ble ((2 : Nat) + List.length (txt n)) (9223372036854775807 : Nat))
 (needS (Nat.ble (List.length (Row.nm (rowOf op) ++ (32 : UInt8) :: (114 : UInt8) :: txt c) + List.length ((44 : UInt8) :: (32 : UInt8) :: txt n)) (9223372036854775807 : Nat))
 (Q (IV.str (Row.nm (rowOf op) ++ (32 : UInt8) :: (114 : UInt8) :: txt c ++ (44 : UInt8) :: (32 : UInt8) :: txt n)) h)))))
 (needS (Nat.ble ((1 : Nat) + List.length ((114 : UInt8) :: txt c)) (9223372036854775807 : Nat))
 (needS (Nat.ble (List.length (Row.nm (rowOf op)) + List.length ((32 : UInt8) :: (114 : UInt8) :: txt c)) (9223372036854775807 : Nat))
 (Q (IV.str (Row.nm (rowOf op) ++ (32 : UInt8) :: (114 : UInt8) :: txt c)) h))))))))
 (brS (Row.fm (rowOf op) == (8 : Int))
 (((-9223372036854775808 : Int) ≤ n ∧ n ≤ (9223372036854775807 : Int)) ∧
 needS (Nat.ble ((1 : Nat) + List.length (txt n)) (9223372036854775807 : Nat))
 (needS (Nat.ble (List.length (Row.nm (rowOf op)) + List.length ((32 : UInt8) :: txt n)) (9223372036854775807 : Nat)) (Q (IV.str (Row.nm (rowOf op) ++ (32 : UInt8) :: txt n)) h)))
 (brS (Row.fm (rowOf op) == (5 : Int))
 (((-9223372036854775808 : Int) ≤ n ∧ n ≤ (9223372036854775807 : Int)) ∧
 needS (Nat.ble ((1 : Nat) + List.length (txt n)) (9223372036854775807 : Nat))
 (needS (Nat.ble (List.length (Row.nm (rowOf op)) + List.length ((32 : UInt8) :: txt n)) (9223372036854775807 : Nat)) (Q (IV.str (Row.nm (rowOf op) ++ (32 : UInt8) :: txt n)) h)))
 (brS (Row.fm (rowOf op) == (6 : Int))
 (((-9223372036854775808 : Int) ≤ n ∧ n ≤ (9223372036854775807 : Int)) ∧
 needS (Nat.ble ((1 : Nat) + List.length (txt n)) (9223372036854775807 : Nat))
 (needS (Nat.ble (List.length (Row.nm (rowOf op)) + List.length ((32 : UInt8) :: txt n)) (9223372036854775807 : Nat)) (Q (IV.str (Row.nm (rowOf op) ++ (32 : UInt8) :: txt n)) h)))
 (brS (Row.fm (rowOf op) == (7 : Int))
 (((-9223372036854775808 : Int) ≤ n ∧ n ≤ (9223372036854775807 : Int)) ∧
 needS (Nat.ble ((1 : Nat) + List.length (txt n)) (9223372036854775807 : Nat))
 (needS (Nat.ble (List.length (Row.nm (rowOf op)) + List.length ((32 : UInt8) :: txt n)) (9223372036854775807 : Nat)) (Q (IV.str (Row.nm (rowOf op) ++ (32 : UInt8) :: txt n)) h)))
 (Q (IV.str (Row.nm (rowOf op))) h)))))))))))) := by kernel_rfl
set_option maxHeartbeats 8000000 in
theorem sRFormat : ∀ xs h Q, kRFormat xs h Q → CallW env 20 xs h Q := by
  intro xs h Q hk
  unfold kRFormat at hk
  split at hk
  · rename_i op a b c n
    refine dF_sound (okRTripL) (mp_eq (vRFormat op a b c n h Q) ?_)
    refine brS_intro (fun cv => ?_) (fun cv => ?_)
    · rw [Bool.not_eq_true'] at cv
      have e : fmtS ⟨op, a, b, c, n⟩ = [] := by
        unfold fmtS vIn
        simp only [cv]
        rfl
      rw [e] at hk
      exact hk
    · rw [Bool.not_eq_false'] at cv
      have hvi : vIn ⟨op, a, b, c, n⟩ = true := cv
      obtain ⟨ha, hb, hc, hn⟩ := vIn_rng hvi
      simp only at ha hb hc hn
      have hr := fm_range (vIn_op hvi)
      have h6 : op = 6 → (rowOf op).fm = 5 := by
        intro q
        rw [q]
        decide +kernel
      rw [fmtS_v hvi] at hk
      unfold fmtV opsS at hk
      simp only [← fm_eq] at hk hr
      have l0 := nm6 op
      have la := txt_len (n := a) (by omega)
      have lb := txt_len (n := b) (by omega)
      have lc := txt_len (n := c) (by omega)
      have ln := txt_len (n := n) (by omega)
      have ba : -9223372036854775808 ≤ a ∧ a ≤ 9223372036854775807 := by omega
      have bb : -9223372036854775808 ≤ b ∧ b ≤ 9223372036854775807 := by omega
      have bc : -9223372036854775808 ≤ c ∧ c ≤ 9223372036854775807 := by omega
      clear cv hvi ha hb hc
      generalize txt a = ta at *
      generalize txt b = tb at *
      generalize txt c = tc at *
      generalize txt n = tn at *
      generalize (rowOf op).nm = nm at *
      generalize (rowOf op).fm = f at *
      have h8 : f = 1 ∨ f = 2 ∨ f = 3 ∨ f = 4 ∨ f = 5 ∨ f = 6 ∨ f = 7 ∨ f = 8 := by omega
      clear hr
      rcases h8 with rfl | rfl | rfl | rfl | rfl | rfl | rfl | rfl
      all_goals repeat' (first | refine And.intro (by assumption) ?_ | refine needS_intro (by rw [Nat.ble_eq]; (try simp only [List.length_append, List.length_cons, List.length_nil]); omega) ?_ | refine brS_true (by decide) ?_ | refine brS_false (by decide) ?_ | refine brS_intro (fun _ => ?_) (fun _ => ?_))
      all_goals (refine q_eq hk ?_; congr 1; simp_all [joinO, joinR, fA, fB, fC, fN])
  · exact hk.elim
def cRFormat := addC 20 kRFormat cRTripL
theorem okRFormat : Sound env cRFormat := sound_add sRFormat (okRTripL)

end Go.Proofs.YtfmcdageaananaaDoor
