/-
  The target machine: texts of instructions.
  Conditions: none.
-/
import Derived.Test.YtfmcdageaananaaDoorF29
import Derived.KernelRfl
set_option linter.unusedVariables false
set_option linter.unusedSimpArgs false
namespace Go.Proofs.YtfmcdageaananaaDoor
open Go.Pv Go.M29
theorem nm6_at : ∀ k : Fin 37, (rowOf ((k : Nat) + 1)).nm.length ≤ 6 := by decide +kernel
theorem nm6 (op : Int) : (rowOf op).nm.length ≤ 6 := by
  by_cases h : 1 ≤ op ∧ op ≤ 37
  · have e := nm6_at ⟨(op - 1).toNat, by omega⟩
    have e2 : (((op - 1).toNat : Nat) : Int) + 1 = op := by omega
    simp only [e2] at e
    exact e
  · rw [rowOf_out h]; decide
theorem vIn_rng {i : In} (h : vIn i = true) : (0 ≤ i.a ∧ i.a ≤ 7) ∧ (0 ≤ i.b ∧ i.b ≤ 7) ∧ (0 ≤ i.c ∧ i.c ≤ 7) ∧ (-9223372036854775808 ≤ i.n ∧ i.n ≤ 9223372036854775807) := by
  unfold vIn validI at h
  simp only [Bool.and_eq_true, Bool.or_eq_true, Bool.not_eq_true', beq_iff_eq, decide_eq_true_eq] at h
  obtain ⟨⟨⟨⟨⟨⟨⟨⟨_, _⟩, _⟩, _⟩, hn0⟩, ha⟩, hb⟩, hc⟩, hn⟩ := h
  refine ⟨⟨ha.1, ?_⟩, hb, hc, ?_⟩
  · have := ha.2
    split at this <;> omega
  · unfold loI hiI at hn
    rcases hn with q | q
    · rcases hn0 with z | z
      · rw [z] at q; cases q
      · omega
    · obtain ⟨q1, q2⟩ := q
      split at q1 <;> split at q2 <;> (repeat' split at q1) <;> (repeat' split at q2) <;> omega
def kFormat (xs : List IV) (h : Heap) (K : IV → Heap → Prop) : Prop := match xs with
  | [.agg [.int .i64 op, .int .i64 a, .int .i64 b, .int .i64 c, .int .i64 n]] => K (.str (fmtS ⟨op, a, b, c, n⟩)) h
  | _ => False
set_option maxRecDepth 100000 in
theorem vFormat (op a b c n : Int) (h : Heap) (Q : IV → Heap → Prop) : dF (stdS cRSplit) env 11 (fun k => match Nat.beq k 19 with | true => 6 | false => 0) noI noI [.agg [.int .i64 op, .int .i64 a, .int .i64 b, .int .i64 c, .int .i64 n]] h Q = (
  brS (!validI op a b c n) (Q (IV.str []) h)
 (brS (fA (Row.fm (rowOf op)))
 (brS (op == (6 : Int))
 (((-9223372036854775808 : Int) ≤ a ∧ a ≤ (9223372036854775807 : Int)) ∧
 brS (fB (Row.fm (rowOf op)))
 (((-9223372036854775808 : Int) ≤ b ∧ b ≤ (9223372036854775807 : Int)) ∧
 needS (Nat.ble ((1 : Nat) + List.length (txt b)) (9223372036854775807 : Nat))
 (brS (fC (Row.fm (rowOf op)))
 (((-9223372036854775808 : Int) ≤ c ∧ c ≤ (9223372036854775807 : Int)) ∧
 needS (Nat.ble ((1 : Nat) + List.length (txt c)) (9223372036854775807 : Nat))
 (brS (fN (Row.fm (rowOf op)))
 (((-9223372036854775808 : Int) ≤ n ∧ n ≤ (9223372036854775807 : Int)) ∧
 needS (Nat.ble ((1 : Nat) + List.length (txt a)) (9223372036854775807 : Nat))
 (needS (Nat.ble (List.length (Row.nm (rowOf op)) + List.length ((32 : UInt8) :: txt a)) (9223372036854775807 : Nat))
 (needS (Nat.ble ((2 : Nat) + List.length ((114 : UInt8) :: txt b)) (9223372036854775807 : Nat))
 (needS (Nat.ble (List.length (Row.nm (rowOf op) ++ (32 : UInt8) :: txt a) + List.length ((44 : UInt8) :: (32 : UInt8) :: (114 : UInt8) :: txt b)) (9223372036854775807 : Nat))
 (needS (Nat.ble ((2 : Nat) + List.length ((114 : UInt8) :: txt c)) (9223372036854775807 : Nat))
 (needS
 (Nat.ble (List.length (Row.nm (rowOf op) ++ (32 : UInt8) :: txt a ++ (44 : UInt8) :: (32 : UInt8) :: (114 : UInt8) :: txt b) + List.length ((44 : UInt8) :: (32 : UInt8) :: (114 : UInt8) :: txt c))
 (9223372036854775807 : Nat))
 (needS (Nat.ble ((2 : Nat) + List.length (txt n)) (9223372036854775807 : Nat))
 (needS
 (Nat.ble
 (List.length (Row.nm (rowOf op) ++ (32 : UInt8) :: txt a ++ (44 : UInt8) :: (32 : UInt8) :: (114 : UInt8) :: txt b ++ (44 : UInt8) :: (32 : UInt8) :: (114 : UInt8) :: txt c) +
 List.length ((44 : UInt8) :: (32 : UInt8) :: txt n))
 (9223372036854775807 : Nat))
 (Q
 (IV.str
 (Row.nm (rowOf op) ++ (32 : UInt8) :: txt a ++ (44 : UInt8) :: (32 : UInt8) :: (114 : UInt8) :: txt b ++ (44 : UInt8) :: (32 : UInt8) :: (114 : UInt8) :: txt c ++
 (44 : UInt8) :: (32 : UInt8) :: txt n))
 h)))))))))
 (needS (Nat.ble ((1 : Nat) + List.length (txt a)) (9223372036854775807 : Nat))
 (needS (Nat.ble (List.length (Row.nm (rowOf op)) + List.length ((32 : UInt8) :: txt a)) (9223372036854775807 : Nat))
 (needS (Nat.ble ((2 : Nat) + List.length ((114 : UInt8) :: txt b)) (9223372036854775807 : Nat))
 (needS (Nat.ble (List.length (Row.nm (rowOf op) ++ (32 : UInt8) :: txt a) + List.length ((44 : UInt8) :: (32 : UInt8) :: (114 : UInt8) :: txt b)) (9223372036854775807 : Nat))
 (needS (Nat.ble ((2 : Nat) + List.length ((114 : UInt8) :: txt c)) (9223372036854775807 : Nat))
 (needS
 (Nat.ble (List.length (Row.nm (rowOf op) ++ (32 : UInt8) :: txt a ++ (44 : UInt8) :: (32 : UInt8) :: (114 : UInt8) :: txt b) + List.length ((44 : UInt8) :: (32 : UInt8) :: (114 : UInt8) :: txt c))
 (9223372036854775807 : Nat))
 (Q (IV.str (Row.nm (rowOf op) ++ (32 : UInt8) :: txt a ++ (44 : UInt8) :: (32 : UInt8) :: (114 : UInt8) :: txt b ++ (44 : UInt8) :: (32 : UInt8) :: (114 : UInt8) :: txt c)) h)))))))))
 (brS (fN (Row.fm (rowOf op)))
 (((-9223372036854775808 : Int) ≤ n ∧ n ≤ (9223372036854775807 : Int)) ∧
 needS (Nat.ble ((1 : Nat) + List.length (txt a)) (9223372036854775807 : Nat))
 (needS (Nat.ble (List.length (Row.nm (rowOf op)) + List.length ((32 : UInt8) :: txt a)) (9223372036854775807 : Nat))
 (needS (Nat.ble ((2 : Nat) + List.length ((114 : UInt8) :: txt b)) (9223372036854775807 : Nat))
 (needS (Nat.ble (List.length (Row.nm (rowOf op) ++ (32 : UInt8) :: txt a) + List.length ((44 : UInt8) :: (32 : UInt8) :: (114 : UInt8) :: txt b)) (9223372036854775807 : Nat))
 (needS (Nat.ble ((2 : Nat) + List.length (txt n)) (9223372036854775807 : Nat))
 (needS
 (Nat.ble (List.length (Row.nm (rowOf op) ++ (32 : UInt8) :: txt a ++ (44 : UInt8) :: (32 : UInt8) :: (114 : UInt8) :: txt b) + List.length ((44 : UInt8) :: (32 : UInt8) :: txt n)) (9223372036854775807 : Nat))
 (Q (IV.str (Row.nm (rowOf op) ++ (32 : UInt8) :: txt a ++ (44 : UInt8) :: (32 : UInt8) :: (114 : UInt8) :: txt b ++ (44 : UInt8) :: (32 : UInt8) :: txt n)) h)))))))
 (needS (Nat.ble ((1 : Nat) + List.length (txt a)) (9223372036854775807 : Nat))
 (needS (Nat.ble (List.length (Row.nm (rowOf op)) + List.length ((32 : UInt8) :: txt a)) (9223372036854775807 : Nat))
 (needS (Nat.ble ((2 : Nat) + List.length ((114 : UInt8) :: txt b)) (9223372036854775807 : Nat))
 (needS (Nat.ble (List.length (Row.nm (rowOf op) ++ (32 : UInt8) :: txt a) + List.length ((44 : UInt8) :: (32 : UInt8) :: (114 : UInt8) :: txt b)) (9223372036854775807 : Nat))
 (Q (IV.str (Row.nm (rowOf op) ++ (32 : UInt8) :: txt a ++ (44 : UInt8) :: (32 : UInt8) :: (114 : UInt8) :: txt b)) h))))))))
 (brS (fC (Row.fm (rowOf op)))
 (((-9223372036854775808 : Int) ≤ c ∧ c ≤ (9223372036854775807 : Int)) ∧
 needS (Nat.ble ((1 : Nat) + List.length (txt c)) (9223372036854775807 : Nat))
 (brS (fN (Row.fm (rowOf op)))
 (((-9223372036854775808 : Int) ≤ n ∧ n ≤ (9223372036854775807 : Int)) ∧
 needS (Nat.ble ((1 : Nat) + List.length (txt a)) (9223372036854775807 : Nat))
 (needS (Nat.ble (List.length (Row.nm (rowOf op)) + List.length ((32 : UInt8) :: txt a)) (9223372036854775807 : Nat))
 (needS (Nat.ble ((2 : Nat) + List.length ((114 : UInt8) :: txt c)) (9223372036854775807 : Nat))
 (needS (Nat.ble (List.length (Row.nm (rowOf op) ++ (32 : UInt8) :: txt a) + List.length ((44 : UInt8) :: (32 : UInt8) :: (114 : UInt8) :: txt c)) (9223372036854775807 : Nat))
 (needS (Nat.ble ((2 : Nat) + List.length (txt n)) (9223372036854775807 : Nat))
 (needS
 (Nat.ble (List.length (Row.nm (rowOf op) ++ (32 : UInt8) :: txt a ++ (44 : UInt8) :: (32 : UInt8) :: (114 : UInt8) :: txt c) + List.length ((44 : UInt8) :: (32 : UInt8) :: txt n)) (9223372036854775807 : Nat))
 (Q (IV.str (Row.nm (rowOf op) ++ (32 : UInt8) :: txt a ++ (44 : UInt8) :: (32 : UInt8) :: (114 : UInt8) :: txt c ++ (44 : UInt8) :: (32 : UInt8) :: txt n)) h)))))))
 (needS (Nat.ble ((1 : Nat) + List.length (txt a)) (9223372036854775807 : Nat))
 (needS (Nat.ble (List.length (Row.nm (rowOf op)) + List.length ((32 : UInt8) :: txt a)) (9223372036854775807 : Nat))
 (needS (Nat.ble ((2 : Nat) + List.length ((114 : UInt8) :: txt c)) (9223372036854775807 : Nat))
 (needS (Nat.ble (List.length (Row.nm (rowOf op) ++ (32 : UInt8) :: txt a) + List.length ((44 : UInt8) :: (32 : UInt8) :: (114 : UInt8) :: txt c)) (9223372036854775807 : Nat))
 (Q (IV.str (Row.nm (rowOf op) ++ (32 : UInt8) :: txt a ++ (44 : UInt8) :: (32 : UInt8) :: (114 : UInt8) :: txt c)) h)))))))
 (brS (fN (Row.fm (rowOf op)))
 (((-9223372036854775808 : Int) ≤ n ∧ n ≤ (9223372036854775807 : Int)) ∧
 needS (Nat.ble ((1 : Nat) + List.length (txt a)) (9223372036854775807 : Nat))
 (needS (Nat.ble (List.length (Row.nm (rowOf op)) + List.length ((32 : UInt8) :: txt a)) (9223372036854775807 : Nat))
 (needS (Nat.ble ((2 : Nat) + List.length (txt n)) (9223372036854775807 : Nat))
 (needS (Nat.ble (List.length (Row.nm (rowOf op) ++ (32 : UInt8) :: txt a) + List.length ((44 : UInt8) :: (32 : UInt8) :: txt n)) (9223372036854775807 : Nat))
 (Q (IV.str (Row.nm (rowOf op) ++ (32 : UInt8) :: txt a ++ (44 : UInt8) :: (32 : UInt8) :: txt n)) h)))))
 (needS (Nat.ble ((1 : Nat) + List.length (txt a)) (9223372036854775807 : Nat))
 (needS (Nat.ble (List.length (Row.nm (rowOf op)) + List.length ((32 : UInt8) :: txt a)) (9223372036854775807 : Nat)) (Q (IV.str (Row.nm (rowOf op) ++ (32 : UInt8) :: txt a)) h))))))
 (brS (fA (Row.fm (rowOf op)))
 (((-9223372036854775808 : Int) ≤ a ∧ a ≤ (9223372036854775807 : Int)) ∧
 needS (Nat.ble ((1 : Nat) + List.length (txt a)) (9223372036854775807 : Nat))
 (brS (fB (Row.fm (rowOf op)))
 (((-9223372036854775808 : Int) ≤ b ∧ b ≤ (9223372036854775807 : Int)) ∧
 needS (Nat.ble ((1 : Nat) + List.length (txt b)) (9223372036854775807 : Nat))
 (brS (fC (Row.fm (rowOf op)))
 (((-9223372036854775808 : Int) ≤ c ∧ c ≤ (9223372036854775807 : Int)) ∧
 needS (Nat.ble ((1 : Nat) + List.length (txt c)) (9223372036854775807 : Nat))
 (brS (fN (Row.fm (rowOf op)))
 (((-9223372036854775808 : Int) ≤ n ∧ n ≤ (9223372036854775807 : Int)) ∧
 needS (Nat.ble ((1 : Nat) + List.length ((114 : UInt8) :: txt a)) (9223372036854775807 : Nat))
 (needS (Nat.ble (List.length (Row.nm (rowOf op)) + List.length ((32 : UInt8) :: (114 : UInt8) :: txt a)) (9223372036854775807 : Nat))
 (needS (Nat.ble ((2 : Nat) + List.length ((114 : UInt8) :: txt b)) (9223372036854775807 : Nat))
 (needS (Nat.ble (List.length (Row.nm (rowOf op) ++ (32 : UInt8) :: (114 : UInt8) :: txt a) + List.length ((44 : UInt8) :: (32 : UInt8) :: (114 : UInt8) :: txt b)) (9223372036854775807 : Nat))
 (needS (Nat.ble ((2 : Nat) + List.length ((114 : UInt8) :: txt c)) (9223372036854775807 : Nat))
 (needS
 (Nat.ble
 (List.length (Row.nm (rowOf op) ++ (32 : UInt8) :: (114 : UInt8) :: txt a ++ (44 : UInt8) :: (32 : UInt8) :: (114 : UInt8) :: txt b) +
 List.length ((44 : UInt8) :: (32 : UInt8) :: (114 : UInt8) :: txt c))
 (9223372036854775807 : Nat))
 (needS (Nat.ble ((2 : Nat) + List.length (txt n)) (9223372036854775807 : Nat))
 (needS
 (Nat.ble
 (List.length (Row.nm (rowOf op) ++ (32 : UInt8) :: (114 : UInt8) :: txt a ++ (44 : UInt8) :: (32 : UInt8) :: (114 : UInt8) :: txt b ++ (44 : UInt8) :: (32 : UInt8) :: (114 : UInt8) :: txt c) +
 List.length ((44 : UInt8) :: (32 : UInt8) :: txt n))
 (9223372036854775807 : Nat))
 (Q
 (IV.str
 (Row.nm (rowOf op) ++ (32 : UInt8) :: (114 : UInt8) :: txt a ++ (44 : UInt8) :: (32 : UInt8) :: (114 : UInt8) :: txt b ++ (44 : UInt8) :: (32 : UInt8) :: (114 : UInt8) :: txt c ++
 (44 : UInt8) :: (32 : UInt8) :: txt n))
 h)))))))))
 (needS (Nat.ble ((1 : Nat) + List.length ((114 : UInt8) :: txt a)) (9223372036854775807 : Nat))
 (needS (Nat.ble (List.length (Row.nm (rowOf op)) + List.length ((32 : UInt8) :: (114 : UInt8) :: txt a)) (9223372036854775807 : Nat))
 (needS (Nat.ble ((2 : Nat) + List.length ((114 : UInt8) :: txt b)) (9223372036854775807 : Nat))
 (needS (Nat.ble (List.length (Row.nm (rowOf op) ++ (32 : UInt8) :: (114 : UInt8) :: txt a) + List.length ((44 : UInt8) :: (32 : UInt8) :: (114 : UInt8) :: txt b)) (9223372036854775807 : Nat))
 (needS (Nat.ble ((2 : Nat) + List.length ((114 : UInt8) :: txt c)) (9223372036854775807 : Nat))
 (needS
 (Nat.ble
 (List.length (Row.nm (rowOf op) ++ (32 : UInt8) :: (114 : UInt8) :: txt a ++ (44 : UInt8) :: (32 : UInt8) :: (114 : UInt8) :: txt b) +
 List.length ((44 : UInt8) :: (32 : UInt8) :: (114 : UInt8) :: txt c))
 (9223372036854775807 : Nat))
 (Q (IV.str (Row.nm (rowOf op) ++ (32 : UInt8) :: (114 : UInt8) :: txt a ++ (44 : UInt8) :: (32 : UInt8) :: (114 : UInt8) :: txt b ++ (44 : UInt8) :: (32 : UInt8) :: (114 : UInt8) :: txt c)) h)))))))))
 (brS (fN (Row.fm (rowOf op)))
 (((-9223372036854775808 : Int) ≤ n ∧ n ≤ (9223372036854775807 : Int)) ∧
 needS (Nat.ble ((1 : Nat) + List.length ((114 : UInt8) :: txt a)) (9223372036854775807 : Nat))
 (needS (Nat.ble (List.length (Row.nm (rowOf op)) + List.length ((32 : UInt8) :: (114 : UInt8) :: txt a)) (9223372036854775807 : Nat))
 (needS (Nat.ble ((2 : Nat) + List.length ((114 : UInt8) :: txt b)) (9223372036854775807 : Nat))
 (needS (Nat.ble (List.length (Row.nm (rowOf op) ++ (32 : UInt8) :: (114 : UInt8) :: txt a) + List.length ((44 : UInt8) :: (32 : UInt8) :: (114 : UInt8) :: txt b)) (9223372036854775807 : Nat))
 (needS (Nat.ble ((2 : Nat) + List.length (txt n)) (9223372036854775807 : Nat))
 (needS
 (Nat.ble (List.length (Row.nm (rowOf op) ++ (32 : UInt8) :: (114 : UInt8) :: txt a ++ (44 : UInt8) :: (32 : UInt8) :: (114 : UInt8) :: txt b) + List.length ((44 : UInt8) :: (32 : UInt8) :: txt n))
 (9223372036854775807 : Nat))
 (Q (IV.str (Row.nm (rowOf op) ++ (32 : UInt8) :: (114 : UInt8) :: txt a ++ (44 : UInt8) :: (32 : UInt8) :: (114 : UInt8) :: txt b ++ (44 : UInt8) :: (32 : UInt8) :: txt n)) h)))))))
 (needS (Nat.ble ((1 : Nat) + List.length ((114 : UInt8) :: txt a)) (9223372036854775807 : Nat))
 (needS (Nat.ble (List.length (Row.nm (rowOf op)) + List.length ((32 : UInt8) :: (114 : UInt8) :: txt a)) (9223372036854775807 : Nat))
 (needS (Nat.ble ((2 : Nat) + List.length ((114 : UInt8) :: txt b)) (9223372036854775807 : Nat))
 (needS (Nat.ble (List.length (Row.nm (rowOf op) ++ (32 : UInt8) :: (114 : UInt8) :: txt a) + List.length ((44 : UInt8) :: (32 : UInt8) :: (114 : UInt8) :: txt b)) (9223372036854775807 : Nat))
 (Q (IV.str (Row.nm (rowOf op) ++ (32 : UInt8) :: (114 : UInt8) :: txt a ++ (44 : UInt8) :: (32 : UInt8) :: (114 : UInt8) :: txt b)) h))))))))
 (brS (fC (Row.fm (rowOf op)))
 (((-9223372036854775808 : Int) ≤ c ∧ c ≤ (9223372036854775807 : Int)) ∧
 needS (Nat.ble ((1 : Nat) + List.length (txt c)) (9223372036854775807 : Nat))
 (brS (fN (Row.fm (rowOf op)))
 (((-9223372036854775808 : Int) ≤ n ∧ n ≤ (9223372036854775807 : Int)) ∧
 needS (Nat.ble ((1 : Nat) + List.length ((114 : UInt8) :: txt a)) (9223372036854775807 : Nat))
 (needS (Nat.ble (List.length (Row.nm (rowOf op)) + List.length ((32 : UInt8) :: (114 : UInt8) :: txt a)) (9223372036854775807 : Nat))
 (needS (Nat.ble ((2 : Nat) + List.length ((114 : UInt8) :: txt c)) (9223372036854775807 : Nat))
 (needS (Nat.ble (List.length (Row.nm (rowOf op) ++ (32 : UInt8) :: (114 : UInt8) :: txt a) + List.length ((44 : UInt8) :: (32 : UInt8) :: (114 : UInt8) :: txt c)) (9223372036854775807 : Nat))
 (needS (Nat.ble ((2 : Nat) + List.length (txt n)) (9223372036854775807 : Nat))
 (needS
 (Nat.ble (List.length (Row.nm (rowOf op) ++ (32 : UInt8) :: (114 : UInt8) :: txt a ++ (44 : UInt8) :: (32 : UInt8) :: (114 : UInt8) :: txt c) + List.length ((44 : UInt8) :: (32 : UInt8) :: txt n))
 (9223372036854775807 : Nat))
 (Q (IV.str (Row.nm (rowOf op) ++ (32 : UInt8) :: (114 : UInt8) :: txt a ++ (44 : UInt8) :: (32 : UInt8) :: (114 : UInt8) :: txt c ++ (44 : UInt8) :: (32 : UInt8) :: txt n)) h)))))))
 (needS (Nat.ble ((1 : Nat) + List.length ((114 : UInt8) :: txt a)) (9223372036854775807 : Nat))
 (needS (Nat.ble (List.length (Row.nm (rowOf op)) + List.length ((32 : UInt8) :: (114 : UInt8) :: txt a)) (9223372036854775807 : Nat))
 (needS (Nat.ble ((2 : Nat) + List.length ((114 : UInt8) :: txt c)) (9223372036854775807 : Nat))
 (needS (Nat.ble (List.length (Row.nm (rowOf op) ++ (32 : UInt8) :: (114 : UInt8) :: txt a) + List.length ((44 : UInt8) :: (32 : UInt8) :: (114 : UInt8) :: txt c)) (9223372036854775807 : Nat))
 (Q (IV.str (Row.nm (rowOf op) ++ (32 : UInt8) :: (114 : UInt8) :: txt a ++ (44 : UInt8) :: (32 : UInt8) :: (114 : UInt8) :: txt c)) h)))))))
 (brS (fN (Row.fm (rowOf op)))
 (((-9223372036854775808 : Int) ≤ n ∧ n ≤ (9223372036854775807 : Int)) ∧
 needS (Nat.ble ((1 : Nat) + List.length ((114 : UInt8) :: txt a)) (9223372036854775807 : Nat))
 (needS (Nat.ble (List.length (Row.nm (rowOf op)) + List.length ((32 : UInt8) :: (114 : UInt8) :: txt a)) (9223372036854775807 : Nat))
 (needS (Nat.ble ((2 : Nat) + List.length (txt n)) (9223372036854775807 : Nat))
 (needS (Nat.ble (List.length (Row.nm (rowOf op) ++ (32 : UInt8) :: (114 : UInt8) :: txt a) + List.length ((44 : UInt8) :: (32 : UInt8) :: txt n)) (9223372036854775807 : Nat))
 (Q (IV.str (Row.nm (rowOf op) ++ (32 : UInt8) :: (114 : UInt8) :: txt a ++ (44 : UInt8) :: (32 : UInt8) :: txt n)) h)))))
 (needS (Nat.ble ((1 : Nat) + List.length ((114 : UInt8) :: txt a)) (9223372036854775807 : Nat))
 (needS (Nat.ble (List.length (Row.nm (rowOf op)) + List.length ((32 : UInt8) :: (114 : UInt8) :: txt a)) (9223372036854775807 : Nat)) (Q (IV.str (Row.nm (rowOf op) ++ (32 : UInt8) :: (114 : UInt8) :: txt a)) h)))))))
 (brS (fB (Row.fm (rowOf op)))
 (((-9223372036854775808 : Int) ≤ b ∧ b ≤ (9223372036854775807 : Int)) ∧
 needS (Nat.ble ((1 : Nat) + List.length (txt b)) (9223372036854775807 : Nat))
 (brS (fC (Row.fm (rowOf op)))
 (((-9223372036854775808 : Int) ≤ c ∧ c ≤ (9223372036854775807 : Int)) ∧
 needS (Nat.ble ((1 : Nat) + List.length (txt c)) (9223372036854775807 : Nat))
 (brS (fN (Row.fm (rowOf op)))
 (((-9223372036854775808 : Int) ≤ n ∧ n ≤ (9223372036854775807 : Int)) ∧
 needS (Nat.ble ((1 : Nat) + List.length ((114 : UInt8) :: txt b)) (9223372036854775807 : Nat))
 (needS (Nat.ble (List.length (Row.nm (rowOf op)) + List.length ((32 : UInt8) :: (114 : UInt8) :: txt b)) (9223372036854775807 : Nat))
 (needS (Nat.ble ((2 : Nat) + List.length ((114 : UInt8) :: txt c)) (9223372036854775807 : Nat))
 (needS (Nat.ble (List.length (Row.nm (rowOf op) ++ (32 : UInt8) :: (114 : UInt8) :: txt b) + List.length ((44 : UInt8) :: (32 : UInt8) :: (114 : UInt8) :: txt c)) (9223372036854775807 : Nat))
 (needS (Nat.ble ((2 : Nat) + List.length (txt n)) (9223372036854775807 : Nat))
 (needS
 (Nat.ble (List.length (Row.nm (rowOf op) ++ (32 : UInt8) :: (114 : UInt8) :: txt b ++ (44 : UInt8) :: (32 : UInt8) :: (114 : UInt8) :: txt c) + List.length ((44 : UInt8) :: (32 : UInt8) :: txt n))
 (9223372036854775807 : Nat))
 (Q (IV.str (Row.nm (rowOf op) ++ (32 : UInt8) :: (114 : UInt8) :: txt b ++ (44 : UInt8) :: (32 : UInt8) :: (114 : UInt8) :: txt c ++ (44 : UInt8) :: (32 : UInt8) :: txt n)) h)))))))
 (needS (Nat.ble ((1 : Nat) + List.length ((114 : UInt8) :: txt b)) (9223372036854775807 : Nat))
 (needS (Nat.ble (List.length (Row.nm (rowOf op)) + List.length ((32 : UInt8) :: (114 : UInt8) :: txt b)) (9223372036854775807 : Nat))
 (needS (Nat.ble ((2 : Nat) + List.length ((114 : UInt8) :: txt c)) (9223372036854775807 : Nat))
 (needS (Nat.ble (List.length (Row.nm (rowOf op) ++ (32 : UInt8) :: (114 : UInt8) :: txt b) + List.length ((44 : UInt8) :: (32 : UInt8) :: (114 : UInt8) :: txt c)) (9223372036854775807 : Nat))
 (Q (IV.str (Row.nm (rowOf op) ++ (32 : UInt8) :: (114 : UInt8) :: txt b ++ (44 : UInt8) :: (32 : UInt8) :: (114 : UInt8) :: txt c)) h)))))))
 (brS (fN (Row.fm (rowOf op)))
 (((-9223372036854775808 : Int) ≤ n ∧ n ≤ (9223372036854775807 : Int)) ∧
 needS (Nat.ble ((1 : Nat) + List.length ((114 : UInt8) :: txt b)) (9223372036854775807 : Nat))
 (needS (Nat.ble (List.length (Row.nm (rowOf op)) + List.length ((32 : UInt8) :: (114 : UInt8) :: txt b)) (9223372036854775807 : Nat))
 (needS (Nat.ble ((2 : Nat) + List.length (txt n)) (9223372036854775807 : Nat))
 (needS (Nat.ble (List.length (Row.nm (rowOf op) ++ (32 : UInt8) :: (114 : UInt8) :: txt b) + List.length ((44 : UInt8) :: (32 : UInt8) :: txt n)) (9223372036854775807 : Nat))
 (Q (IV.str (Row.nm (rowOf op) ++ (32 : UInt8) :: (114 : UInt8) :: txt b ++ (44 : UInt8) :: (32 : UInt8) :: txt n)) h)))))
 (needS (Nat.ble ((1 : Nat) + List.length ((114 : UInt8) :: txt b)) (9223372036854775807 : Nat))
 (needS (Nat.ble (List.length (Row.nm (rowOf op)) + List.length ((32 : UInt8) :: (114 : UInt8) :: txt b)) (9223372036854775807 : Nat)) (Q (IV.str (Row.nm (rowOf op) ++ (32 : UInt8) :: (114 : UInt8) :: txt b)) h))))))
 (brS (fC (Row.fm (rowOf op)))
 (((-9223372036854775808 : Int) ≤ c ∧ c ≤ (9223372036854775807 : Int)) ∧
 needS (Nat.ble ((1 : Nat) + List.length (txt c)) (9223372036854775807 : Nat))
 (brS (fN (Row.fm (rowOf op)))
 (((-9223372036854775808 : Int) ≤ n ∧ n ≤ (9223372036854775807 : Int)) ∧
 needS (Nat.ble ((1 : Nat) + List.length ((114 : UInt8) :: txt c)) (9223372036854775807 : Nat))
 (needS (Nat.ble (List.length (Row.nm (rowOf op)) + List.length ((32 : UInt8) :: (114 : UInt8) :: txt c)) (9223372036854775807 : Nat))
 (needS (Nat.ble ((2 : Nat) + List.length (txt n)) (9223372036854775807 : Nat))
 (needS (Nat.ble (List.length (Row.nm (rowOf op) ++ (32 : UInt8) :: (114 : UInt8) :: txt c) + List.length ((44 : UInt8) :: (32 : UInt8) :: txt n)) (9223372036854775807 : Nat))
 (Q (IV.str (Row.nm (rowOf op) ++ (32 : UInt8) :: (114 : UInt8) :: txt c ++ (44 : UInt8) :: (32 : UInt8) :: txt n)) h)))))
 (needS (Nat.ble ((1 : Nat) + List.length ((114 : UInt8) :: txt c)) (9223372036854775807 : Nat))
 (needS (Nat.ble (List.length (Row.nm (rowOf op)) + List.length ((32 : UInt8) :: (114 : UInt8) :: txt c)) (9223372036854775807 : Nat)) (Q (IV.str (Row.nm (rowOf op) ++ (32 : UInt8) :: (114 : UInt8) :: txt c)) h)))))
 (brS (fN (Row.fm (rowOf op)))
 (((-9223372036854775808 : Int) ≤ n ∧ n ≤ (9223372036854775807 : Int)) ∧
 needS (Nat.ble ((1 : Nat) + List.length (txt n)) (9223372036854775807 : Nat))
 (needS (Nat.ble (List.length (Row.nm (rowOf op)) + List.length ((32 : UInt8) :: txt n)) (9223372036854775807 : Nat)) (Q (IV.str (Row.nm (rowOf op) ++ (32 : UInt8) :: txt n)) h)))
 (Q (IV.str (Row.nm (rowOf op))) h))))))
 (brS (fA (Row.fm (rowOf op)))
 (((-9223372036854775808 : Int) ≤ a ∧ a ≤ (9223372036854775807 : Int)) ∧
 needS (Nat.ble ((1 : Nat) + List.length (txt a)) (9223372036854775807 : Nat))
 (brS (fB (Row.fm (rowOf op)))
 (((-9223372036854775808 : Int) ≤ b ∧ b ≤ (9223372036854775807 : Int)) ∧
 needS (Nat.ble ((1 : Nat) + List.length (txt b)) (9223372036854775807 : Nat))
 (brS (fC (Row.fm (rowOf op)))
 (((-9223372036854775808 : Int) ≤ c ∧ c ≤ (9223372036854775807 : Int)) ∧
 needS (Nat.ble ((1 : Nat) + List.length (txt c)) (9223372036854775807 : Nat))
 (brS (fN (Row.fm (rowOf op)))
 (((-9223372036854775808 : Int) ≤ n ∧ n ≤ (9223372036854775807 : Int)) ∧
 needS (Nat.ble ((1 : Nat) + List.length ((114 : UInt8) :: txt a)) (9223372036854775807 : Nat))
 (needS (Nat.ble (List.length (Row.nm (rowOf op)) + List.length ((32 : UInt8) :: (114 : UInt8) :: txt a)) (9223372036854775807 : Nat))
 (needS (Nat.ble ((2 : Nat) + List.length ((114 : UInt8) :: txt b)) (9223372036854775807 : Nat))
 (needS (Nat.ble (List.length (Row.nm (rowOf op) ++ (32 : UInt8) :: (114 : UInt8) :: txt a) + List.length ((44 : UInt8) :: (32 : UInt8) :: (114 : UInt8) :: txt b)) (9223372036854775807 : Nat))
 (needS (Nat.ble ((2 : Nat) + List.length ((114 : UInt8) :: txt c)) (9223372036854775807 : Nat))
 (needS
 (Nat.ble
 (List.length (Row.nm (rowOf op) ++ (32 : UInt8) :: (114 : UInt8) :: txt a ++ (44 : UInt8) :: (32 : UInt8) :: (114 : UInt8) :: txt b) +
 List.length ((44 : UInt8) :: (32 : UInt8) :: (114 : UInt8) :: txt c))
 (9223372036854775807 : Nat))
 (needS (Nat.ble ((2 : Nat) + List.length (txt n)) (9223372036854775807 : Nat))
 (needS
 (Nat.ble
 (List.length (Row.nm (rowOf op) ++ (32 : UInt8) :: (114 : UInt8) :: txt a ++ (44 : UInt8) :: (32 : UInt8) :: (114 : UInt8) :: txt b ++ (44 : UInt8) :: (32 : UInt8) :: (114 : UInt8) :: txt c) +
 List.length ((44 : UInt8) :: (32 : UInt8) :: txt n))
 (9223372036854775807 : Nat))
 (Q
 (IV.str
 (Row.nm (rowOf op) ++ (32 : UInt8) :: (114 : UInt8) :: txt a ++ (44 : UInt8) :: (32 : UInt8) :: (114 : UInt8) :: txt b ++ (44 : UInt8) :: (32 : UInt8) :: (114 : UInt8) :: txt c ++
 (44 : UInt8) :: (32 : UInt8) :: txt n))
 h)))))))))
 (needS (Nat.ble ((1 : Nat) + List.length ((114 : UInt8) :: txt a)) (9223372036854775807 : Nat))
 (needS (Nat.ble (List.length (Row.nm (rowOf op)) + List.length ((32 : UInt8) :: (114 : UInt8) :: txt a)) (9223372036854775807 : Nat))
 (needS (Nat.ble ((2 : Nat) + List.length ((114 : UInt8) :: txt b)) (9223372036854775807 : Nat))
 (needS (Nat.ble (List.length (Row.nm (rowOf op) ++ (32 : UInt8) :: (114 : UInt8) :: txt a) + List.length ((44 : UInt8) :: (32 : UInt8) :: (114 : UInt8) :: txt b)) (9223372036854775807 : Nat))
 (needS (Nat.ble ((2 : Nat) + List.length ((114 : UInt8) :: txt c)) (9223372036854775807 : Nat))
 (needS
 (Nat.ble
 (List.length (Row.nm (rowOf op) ++ (32 : UInt8) :: (114 : UInt8) :: txt a ++ (44 : UInt8) :: (32 : UInt8) :: (114 : UInt8) :: txt b) +
 List.length ((44 : UInt8) :: (32 : UInt8) :: (114 : UInt8) :: txt c))
 (9223372036854775807 : Nat))
 (Q (IV.str (Row.nm (rowOf op) ++ (32 : UInt8) :: (114 : UInt8) :: txt a ++ (44 : UInt8) :: (32 : UInt8) :: (114 : UInt8) :: txt b ++ (44 : UInt8) :: (32 : UInt8) :: (114 : UInt8) :: txt c)) h)))))))))
 (brS (fN (Row.fm (rowOf op)))
 (((-9223372036854775808 : Int) ≤ n ∧ n ≤ (9223372036854775807 : Int)) ∧
 needS (Nat.ble ((1 : Nat) + List.length ((114 : UInt8) :: txt a)) (9223372036854775807 : Nat))
 (needS (Nat.ble (List.length (Row.nm (rowOf op)) + List.length ((32 : UInt8) :: (114 : UInt8) :: txt a)) (9223372036854775807 : Nat))
 (needS (Nat.ble ((2 : Nat) + List.length ((114 : UInt8) :: txt b)) (9223372036854775807 : Nat))
 (needS (Nat.ble (List.length (Row.nm (rowOf op) ++ (32 : UInt8) :: (114 : UInt8) :: txt a) + List.length ((44 : UInt8) :: (32 : UInt8) :: (114 : UInt8) :: txt b)) (9223372036854775807 : Nat))
 (needS (Nat.ble ((2 : Nat) + List.length (txt n)) (9223372036854775807 : Nat))
 (needS
 (Nat.ble (List.length (Row.nm (rowOf op) ++ (32 : UInt8) :: (114 : UInt8) :: txt a ++ (44 : UInt8) :: (32 : UInt8) :: (114 : UInt8) :: txt b) + List.length ((44 : UInt8) :: (32 : UInt8) :: txt n))
 (9223372036854775807 : Nat))
 (Q (IV.str (Row.nm (rowOf op) ++ (32 : UInt8) :: (114 : UInt8) :: txt a ++ (44 : UInt8) :: (32 : UInt8) :: (114 : UInt8) :: txt b ++ (44 : UInt8) :: (32 : UInt8) :: txt n)) h)))))))
 (needS (Nat.ble ((1 : Nat) + List.length ((114 : UInt8) :: txt a)) (9223372036854775807 : Nat))
 (needS (Nat.ble (List.length (Row.nm (rowOf op)) + List.length ((32 : UInt8) :: (114 : UInt8) :: txt a)) (9223372036854775807 : Nat))
 (needS (Nat.ble ((2 : Nat) + List.length ((114 : UInt8) :: txt b)) (9223372036854775807 : Nat))
 (needS (Nat.ble (List.length (Row.nm (rowOf op) ++ (32 : UInt8) :: (114 : UInt8) :: txt a) + List.length ((44 : UInt8) :: (32 : UInt8) :: (114 : UInt8) :: txt b)) (9223372036854775807 : Nat))
 (Q (IV.str (Row.nm (rowOf op) ++ (32 : UInt8) :: (114 : UInt8) :: txt a ++ (44 : UInt8) :: (32 : UInt8) :: (114 : UInt8) :: txt b)) h))))))))
 (brS (fC (Row.fm (rowOf op)))
 (((-9223372036854775808 : Int) ≤ c ∧ c ≤ (9223372036854775807 : Int)) ∧
 needS (Nat.ble ((1 : Nat) + List.length (txt c)) (9223372036854775807 : Nat))
 (brS (fN (Row.fm (rowOf op)))
 (((-9223372036854775808 : Int) ≤ n ∧ n ≤ (9223372036854775807 : Int)) ∧
 needS (Nat.ble ((1 : Nat) + List.length ((114 : UInt8) :: txt a)) (9223372036854775807 : Nat))
 (needS (Nat.ble (List.length (Row.nm (rowOf op)) + List.length ((32 : UInt8) :: (114 : UInt8) :: txt a)) (9223372036854775807 : Nat))
 (needS (Nat.ble ((2 : Nat) + List.length ((114 : UInt8) :: txt c)) (9223372036854775807 : Nat))
 (needS (Nat.ble (List.length (Row.nm (rowOf op) ++ (32 : UInt8) :: (114 : UInt8) :: txt a) + List.length ((44 : UInt8) :: (32 : UInt8) :: (114 : UInt8) :: txt c)) (9223372036854775807 : Nat))
 (needS (Nat.ble ((2 : Nat) + List.length (txt n)) (9223372036854775807 : Nat))
 (needS
 (Nat.ble (List.length (Row.nm (rowOf op) ++ (32 : UInt8) :: (114 : UInt8) :: txt a ++ (44 : UInt8) :: (32 : UInt8) :: (114 : UInt8) :: txt c) + List.length ((44 : UInt8) :: (32 : UInt8) :: txt n))
 (9223372036854775807 : Nat))
 (Q (IV.str (Row.nm (rowOf op) ++ (32 : UInt8) :: (114 : UInt8) :: txt a ++ (44 : UInt8) :: (32 : UInt8) :: (114 : UInt8) :: txt c ++ (44 : UInt8) :: (32 : UInt8) :: txt n)) h)))))))
 (needS (Nat.ble ((1 : Nat) + List.length ((114 : UInt8) :: txt a)) (9223372036854775807 : Nat))
 (needS (Nat.ble (List.length (Row.nm (rowOf op)) + List.length ((32 : UInt8) :: (114 : UInt8) :: txt a)) (9223372036854775807 : Nat))
 (needS (Nat.ble ((2 : Nat) + List.length ((114 : UInt8) :: txt c)) (9223372036854775807 : Nat))
 (needS (Nat.ble (List.length (Row.nm (rowOf op) ++ (32 : UInt8) :: (114 : UInt8) :: txt a) + List.length ((44 : UInt8) :: (32 : UInt8) :: (114 : UInt8) :: txt c)) (9223372036854775807 : Nat))
 (Q (IV.str (Row.nm (rowOf op) ++ (32 : UInt8) :: (114 : UInt8) :: txt a ++ (44 : UInt8) :: (32 : UInt8) :: (114 : UInt8) :: txt c)) h)))))))
 (brS (fN (Row.fm (rowOf op)))
 (((-9223372036854775808 : Int) ≤ n ∧ n ≤ (9223372036854775807 : Int)) ∧
 needS (Nat.ble ((1 : Nat) + List.length ((114 : UInt8) :: txt a)) (9223372036854775807 : Nat))
 (needS (Nat.ble (List.length (Row.nm (rowOf op)) + List.length ((32 : UInt8) :: (114 : UInt8) :: txt a)) (9223372036854775807 : Nat))
 (needS (Nat.ble ((2 : Nat) + List.length (txt n)) (9223372036854775807 : Nat))
 (needS (Nat.ble (List.length (Row.nm (rowOf op) ++ (32 : UInt8) :: (114 : UInt8) :: txt a) + List.length ((44 : UInt8) :: (32 : UInt8) :: txt n)) (9223372036854775807 : Nat))
 (Q (IV.str (Row.nm (rowOf op) ++ (32 : UInt8) :: (114 : UInt8) :: txt a ++ (44 : UInt8) :: (32 : UInt8) :: txt n)) h)))))
 (needS (Nat.ble ((1 : Nat) + List.length ((114 : UInt8) :: txt a)) (9223372036854775807 : Nat))
 (needS (Nat.ble (List.length (Row.nm (rowOf op)) + List.length ((32 : UInt8) :: (114 : UInt8) :: txt a)) (9223372036854775807 : Nat)) (Q (IV.str (Row.nm (rowOf op) ++ (32 : UInt8) :: (114 : UInt8) :: txt a)) h)))))))
 (brS (fB (Row.fm (rowOf op)))
 (((-9223372036854775808 : Int) ≤ b ∧ b ≤ (9223372036854775807 : Int)) ∧
 needS (Nat.ble ((1 : Nat) + List.length (txt b)) (9223372036854775807 : Nat))
 (brS (fC (Row.fm (rowOf op)))
 (((-9223372036854775808 : Int) ≤ c ∧ c ≤ (9223372036854775807 : Int)) ∧
 needS (Nat.ble ((1 : Nat) + List.length (txt c)) (9223372036854775807 : Nat))
 (brS (fN (Row.fm (rowOf op)))
 (((-9223372036854775808 : Int) ≤ n ∧ n ≤ (9223372036854775807 : Int)) ∧
 needS (Nat.ble ((1 : Nat) + List.length ((114 : UInt8) :: txt b)) (9223372036854775807 : Nat))
 (needS (Nat.ble (List.length (Row.nm (rowOf op)) + List.length ((32 : UInt8) :: (114 : UInt8) :: txt b)) (9223372036854775807 : Nat))
 (needS (Nat.ble ((2 : Nat) + List.length ((114 : UInt8) :: txt c)) (9223372036854775807 : Nat))
 (needS (Nat.ble (List.length (Row.nm (rowOf op) ++ (32 : UInt8) :: (114 : UInt8) :: txt b) + List.length ((44 : UInt8) :: (32 : UInt8) :: (114 : UInt8) :: txt c)) (9223372036854775807 : Nat))
 (needS (Nat.ble ((2 : Nat) + List.length (txt n)) (9223372036854775807 : Nat))
 (needS
 (Nat.ble (List.length (Row.nm (rowOf op) ++ (32 : UInt8) :: (114 : UInt8) :: txt b ++ (44 : UInt8) :: (32 : UInt8) :: (114 : UInt8) :: txt c) + List.length ((44 : UInt8) :: (32 : UInt8) :: txt n))
 (9223372036854775807 : Nat))
 (Q (IV.str (Row.nm (rowOf op) ++ (32 : UInt8) :: (114 : UInt8) :: txt b ++ (44 : UInt8) :: (32 : UInt8) :: (114 : UInt8) :: txt c ++ (44 : UInt8) :: (32 : UInt8) :: txt n)) h)))))))
 (needS (Nat.ble ((1 : Nat) + List.length ((114 : UInt8) :: txt b)) (9223372036854775807 : Nat))
 (needS (Nat.ble (List.length (Row.nm (rowOf op)) + List.length ((32 : UInt8) :: (114 : UInt8) :: txt b)) (9223372036854775807 : Nat))
 (needS (Nat.ble ((2 : Nat) + List.length ((114 : UInt8) :: txt c)) (9223372036854775807 : Nat))
 (needS (Nat.ble (List.length (Row.nm (rowOf op) ++ (32 : UInt8) :: (114 : UInt8) :: txt b) + List.length ((44 : UInt8) :: (32 : UInt8) :: (114 : UInt8) :: txt c)) (9223372036854775807 : Nat))
 (Q (IV.str (Row.nm (rowOf op) ++ (32 : UInt8) :: (114 : UInt8) :: txt b ++ (44 : UInt8) :: (32 : UInt8) :: (114 : UInt8) :: txt c)) h)))))))
 (brS (fN (Row.fm (rowOf op)))
 (((-9223372036854775808 : Int) ≤ n ∧ n ≤ (9223372036854775807 : Int)) ∧
 needS (Nat.ble ((1 : Nat) + List.length ((114 : UInt8) :: txt b)) (9223372036854775807 : Nat))
 (needS (Nat.ble (List.length (Row.nm (rowOf op)) + List.length ((32 : UInt8) :: (114 : UInt8) :: txt b)) (9223372036854775807 : Nat))
 (needS (Nat.ble ((2 : Nat) + List.length (txt n)) (9223372036854775807 : Nat))
 (needS (Nat.ble (List.length (Row.nm (rowOf op) ++ (32 : UInt8) :: (114 : UInt8) :: txt b) + List.length ((44 : UInt8) :: (32 : UInt8) :: txt n)) (9223372036854775807 : Nat))
 (Q (IV.str (Row.nm (rowOf op) ++ (32 : UInt8) :: (114 : UInt8) :: txt b ++ (44 : UInt8) :: (32 : UInt8) :: txt n)) h)))))
 (needS (Nat.ble ((1 : Nat) + List.length ((114 : UInt8) :: txt b)) (9223372036854775807 : Nat))
 (needS (Nat.ble (List.length (Row.nm (rowOf op)) + List.length ((32 : UInt8) :: (114 : UInt8) :: txt b)) (9223372036854775807 : Nat)) (Q (IV.str (Row.nm (rowOf op) ++ (32 : UInt8) :: (114 : UInt8) :: txt b)) h))))))
 (brS (fC (Row.fm (rowOf op)))
 (((-9223372036854775808 : Int) ≤ c ∧ c ≤ (9223372036854775807 : Int)) ∧
 needS (Nat.ble ((1 : Nat) + List.length (txt c)) (9223372036854775807 : Nat))
 (brS (fN (Row.fm (rowOf op)))
 (((-9223372036854775808 : Int) ≤ n ∧ n ≤ (9223372036854775807 : Int)) ∧
 needS (Nat.ble ((1 : Nat) + List.length ((114 : UInt8) :: txt c)) (9223372036854775807 : Nat))
 (needS (Nat.ble (List.length (Row.nm (rowOf op)) + List.length ((32 : UInt8) :: (114 : UInt8) :: txt c)) (9223372036854775807 : Nat))
 (needS (Nat.ble ((2 : Nat) + List.length (txt n)) (9223372036854775807 : Nat))
 (needS (Nat.ble (List.length (Row.nm (rowOf op) ++ (32 : UInt8) :: (114 : UInt8) :: txt c) + List.length ((44 : UInt8) :: (32 : UInt8) :: txt n)) (9223372036854775807 : Nat))
 (Q (IV.str (Row.nm (rowOf op) ++ (32 : UInt8) :: (114 : UInt8) :: txt c ++ (44 : UInt8) :: (32 : UInt8) :: txt n)) h)))))
 (needS (Nat.ble ((1 : Nat) + List.length ((114 : UInt8) :: txt c)) (9223372036854775807 : Nat))
 (needS (Nat.ble (List.length (Row.nm (rowOf op)) + List.length ((32 : UInt8) :: (114 : UInt8) :: txt c)) (9223372036854775807 : Nat)) (Q (IV.str (Row.nm (rowOf op) ++ (32 : UInt8) :: (114 : UInt8) :: txt c)) h)))))
 (brS (fN (Row.fm (rowOf op)))
 (((-9223372036854775808 : Int) ≤ n ∧ n ≤ (9223372036854775807 : Int)) ∧
 needS (Nat.ble ((1 : Nat) + List.length (txt n)) (9223372036854775807 : Nat))
 (needS (Nat.ble (List.length (Row.nm (rowOf op)) + List.length ((32 : UInt8) :: txt n)) (9223372036854775807 : Nat)) (Q (IV.str (Row.nm (rowOf op) ++ (32 : UInt8) :: txt n)) h)))
 (Q (IV.str (Row.nm (rowOf op))) h))))))) := by kernel_rfl
set_option maxHeartbeats 4000000 in
theorem sFormat : ∀ xs h Q, kFormat xs h Q → CallW env 11 xs h Q := by
  intro xs h Q hk
  unfold kFormat at hk
  split at hk
  · rename_i op a b c n
    refine dF_sound (okRSplit) (mp_eq (vFormat op a b c n h Q) ?_)
    refine brS_intro (fun cv => ?_) (fun cv => ?_)
    · rw [Bool.not_eq_true'] at cv
      have e : fmtS ⟨op, a, b, c, n⟩ = [] := by
        unfold fmtS vIn
        simp only [cv]
        rfl
      rw [e] at hk
      exact hk
    · rw [Bool.not_eq_false'] at cv
      have hvi : vIn ⟨op, a, b, c, n⟩ = true := cv
      obtain ⟨ha, hb, hc, hn⟩ := vIn_rng hvi
      simp only at ha hb hc hn
      rw [fmtS_v hvi] at hk
      unfold fmtV opsS at hk
      simp only [← fm_eq] at hk
      have l0 := nm6 op
      have la := txt_len (n := a) (by omega)
      have lb := txt_len (n := b) (by omega)
      have lc := txt_len (n := c) (by omega)
      have ln := txt_len (n := n) (by omega)
      have ba : -9223372036854775808 ≤ a ∧ a ≤ 9223372036854775807 := by omega
      have bb : -9223372036854775808 ≤ b ∧ b ≤ 9223372036854775807 := by omega
      have bc : -9223372036854775808 ≤ c ∧ c ≤ 9223372036854775807 := by omega
      clear cv hvi ha hb hc
      generalize txt a = ta at *
      generalize txt b = tb at *
      generalize txt c = tc at *
      generalize txt n = tn at *
      generalize (rowOf op).nm = nm at *
      generalize (rowOf op).fm = f at *
      repeat' (first | refine And.intro (by assumption) ?_ | refine needS_intro (by rw [Nat.ble_eq]; (try simp only [List.length_append, List.length_cons, List.length_nil]); omega) ?_ | refine brS_intro (fun _ => ?_) (fun _ => ?_))
      all_goals (refine q_eq hk ?_; congr 1; simp_all [joinO, joinR])
  · exact hk.elim
def cFormat := addC 11 kFormat cRSplit
theorem okFormat : Sound env cFormat := sound_add sFormat (okRSplit)

end Go.Proofs.YtfmcdageaananaaDoor
