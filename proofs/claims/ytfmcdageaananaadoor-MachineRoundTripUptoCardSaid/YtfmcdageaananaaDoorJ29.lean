/-
  The target machine: the program's parser.
  Conditions: none.
-/
import Derived.Test.YtfmcdageaananaaDoorG29
import Derived.Test.YtfmcdageaananaaDoorX29
import Derived.KernelRfl
set_option linter.unusedVariables false
set_option linter.unusedSimpArgs false
namespace Go.Proofs.YtfmcdageaananaaDoor
open Go.Pv Go.M29
theorem tailS (y : List UInt8) (r : List (List UInt8)) : TV.v (.vslice none (0 - ((y :: r).length - Int.toNat ((y :: r).length : Int)) * 1) (Int.toNat ((y :: r).length : Int) - 1) 1 (List.take ((Int.toNat ((y :: r).length : Int) - 1) * 1) (List.drop 1 ((y :: r).map IV.str)))) = TV.v (.vslice none 0 r.length 1 (r.map IV.str)) := by
  simp
  exact List.take_of_length_le (by simp)
theorem vin_of {op a b c v : Int} (h : (!validI op a b c v) = false) : vIn ⟨op, a, b, c, v⟩ = true := by
  have h1 : validI op a b c v = true := by simpa using h
  exact h1
theorem ldSS_c {y : List UInt8} {r : List (List UInt8)} {K : List UInt8 → Prop} (h : K y) : ldSS ((y :: r).map IV.str) 0 K := h
def paInv (s : List UInt8) (op : Int) : Inv' := .or
  (atX (List (List UInt8)) (fun x => [(0, .v (.str s)), (2, .l 2 0), (5, .v (.vslice none 0 (x).length 1 ((x).map IV.str))), (6, .v (.int .i64 op)), (13, .v (.bool (fN (rowOf op).fm))), (14, .v (.ptr 0 0)), (58, .v (.vslice none 1 3 2 [.bool (fA (rowOf op).fm), .ptr 0 1, .bool (fB (rowOf op).fm), .ptr 0 2, .bool (fC (rowOf op).fm), .ptr 0 3])), (59, .v (.int .i64 3)), (60, .v (.int .i64 0))]) (fun x => [(2, [.int .i64 0, .int .i64 0, .int .i64 0, .int .i64 0, .int .i64 0])]) (fun x => ⟨.node .nil (some (.cells [.int .i64 op, .int .i64 (0), .int .i64 (0), .int .i64 (0), .int .i64 0])) .nil, 1⟩) (fun x => (lkp rows 1 (nameS s)).2 = true ∧ PC 0 s op 0 0 0 x) (fun x => 3))
  (.or
  (atX (Int × List (List UInt8)) (fun x => [(0, .v (.str s)), (2, .l 2 0), (5, .v (.vslice none 0 (x.2).length 1 ((x.2).map IV.str))), (6, .v (.int .i64 op)), (13, .v (.bool (fN (rowOf op).fm))), (14, .v (.ptr 0 0)), (58, .v (.vslice none 1 3 2 [.bool (fA (rowOf op).fm), .ptr 0 1, .bool (fB (rowOf op).fm), .ptr 0 2, .bool (fC (rowOf op).fm), .ptr 0 3])), (59, .v (.int .i64 3)), (60, .v (.int .i64 1))]) (fun x => [(2, [.int .i64 0, .int .i64 0, .int .i64 0, .int .i64 0, .int .i64 0])]) (fun x => ⟨.node .nil (some (.cells [.int .i64 op, .int .i64 (x.1), .int .i64 (0), .int .i64 (0), .int .i64 0])) .nil, 1⟩) (fun x => (lkp rows 1 (nameS s)).2 = true ∧ PC 1 s op x.1 0 0 x.2) (fun x => 2))
  (.or
  (atX (Int × Int × List (List UInt8)) (fun x => [(0, .v (.str s)), (2, .l 2 0), (5, .v (.vslice none 0 (x.2.2).length 1 ((x.2.2).map IV.str))), (6, .v (.int .i64 op)), (13, .v (.bool (fN (rowOf op).fm))), (14, .v (.ptr 0 0)), (58, .v (.vslice none 1 3 2 [.bool (fA (rowOf op).fm), .ptr 0 1, .bool (fB (rowOf op).fm), .ptr 0 2, .bool (fC (rowOf op).fm), .ptr 0 3])), (59, .v (.int .i64 3)), (60, .v (.int .i64 2))]) (fun x => [(2, [.int .i64 0, .int .i64 0, .int .i64 0, .int .i64 0, .int .i64 0])]) (fun x => ⟨.node .nil (some (.cells [.int .i64 op, .int .i64 (x.1), .int .i64 (x.2.1), .int .i64 (0), .int .i64 0])) .nil, 1⟩) (fun x => (lkp rows 1 (nameS s)).2 = true ∧ PC 2 s op x.1 x.2.1 0 x.2.2) (fun x => 1))
  (atX (Int × Int × Int × List (List UInt8)) (fun x => [(0, .v (.str s)), (2, .l 2 0), (5, .v (.vslice none 0 (x.2.2.2).length 1 ((x.2.2.2).map IV.str))), (6, .v (.int .i64 op)), (13, .v (.bool (fN (rowOf op).fm))), (14, .v (.ptr 0 0)), (58, .v (.vslice none 1 3 2 [.bool (fA (rowOf op).fm), .ptr 0 1, .bool (fB (rowOf op).fm), .ptr 0 2, .bool (fC (rowOf op).fm), .ptr 0 3])), (59, .v (.int .i64 3)), (60, .v (.int .i64 3))]) (fun x => [(2, [.int .i64 0, .int .i64 0, .int .i64 0, .int .i64 0, .int .i64 0])]) (fun x => ⟨.node .nil (some (.cells [.int .i64 op, .int .i64 (x.1), .int .i64 (x.2.1), .int .i64 (x.2.2.1), .int .i64 0])) .nil, 1⟩) (fun x => (lkp rows 1 (nameS s)).2 = true ∧ PC 3 s op x.1 x.2.1 x.2.2.1 x.2.2.2) (fun x => 0))))
def kParse (xs : List IV) (h : Heap) (K : IV → Heap → Prop) : Prop := match xs with
  | [.str s] => s.length ≤ 1000000000000 ∧ ∀ r : In × Bool, Rs s r → K (.tuple [.agg [.int .i64 r.1.op, .int .i64 r.1.a, .int .i64 r.1.b, .int .i64 r.1.c, .int .i64 r.1.n], .bool r.2]) h
  | _ => False
set_option maxRecDepth 100000 in
theorem vParse (s : List UInt8) (h : Heap) (Q : IV → Heap → Prop) : dF (stdS cFormat) env 10 noU (ic1 10 (paInv s (lkp rows 1 (nameS s)).1)) noI [.str s] h Q = (
  List.length s ≤ (1000000000000 : Nat) ∧
 brS (!Prod.snd (lkp rows (1 : Int) (nameS s))) (Q (IV.tuple [IV.agg [IV.int IntKind.i64 (0 : Int), IV.int IntKind.i64 (0 : Int), IV.int IntKind.i64 (0 : Int), IV.int IntKind.i64 (0 : Int), IV.int IntKind.i64 (0 : Int)], IV.bool false]) h)
 (((∃ (x : List (List UInt8)),
 some (TV.v (IV.str s)) = some (TV.v (IV.str s)) ∧
 some (TV.l (2 : Nat) (0 : Nat)) = some (TV.l (2 : Nat) (0 : Nat)) ∧
 some (TV.v (IV.vslice none (0 : Nat) (List.length (pcsS s)) (1 : Nat) (List.map IV.str (pcsS s)))) = some (TV.v (IV.vslice none (0 : Nat) (List.length x) (1 : Nat) (List.map IV.str x))) ∧
 some (TV.v (IV.int IntKind.i64 (Prod.fst (lkp rows (1 : Int) (nameS s))))) = some (TV.v (IV.int IntKind.i64 (Prod.fst (lkp rows (1 : Int) (nameS s))))) ∧
 some (TV.v (IV.bool (fN (Row.fm (rowOf (Prod.fst (lkp rows (1 : Int) (nameS s)))))))) = some (TV.v (IV.bool (fN (Row.fm (rowOf (Prod.fst (lkp rows (1 : Int) (nameS s)))))))) ∧
 some (TV.v (IV.ptr (0 : Nat) (0 : Nat))) = some (TV.v (IV.ptr (0 : Nat) (0 : Nat))) ∧
 some
 (TV.v
 (IV.vslice none (1 : Nat) (3 : Nat) (2 : Nat)
 [IV.bool (fA (Row.fm (rowOf (Prod.fst (lkp rows (1 : Int) (nameS s)))))), IV.ptr (0 : Nat) (1 : Nat), IV.bool (fB (Row.fm (rowOf (Prod.fst (lkp rows (1 : Int) (nameS s)))))), IV.ptr (0 : Nat) (2 : Nat),
 IV.bool (fC (Row.fm (rowOf (Prod.fst (lkp rows (1 : Int) (nameS s)))))), IV.ptr (0 : Nat) (3 : Nat)])) =
 some
 (TV.v
 (IV.vslice none (1 : Nat) (3 : Nat) (2 : Nat)
 [IV.bool (fA (Row.fm (rowOf (Prod.fst (lkp rows (1 : Int) (nameS s)))))), IV.ptr (0 : Nat) (1 : Nat), IV.bool (fB (Row.fm (rowOf (Prod.fst (lkp rows (1 : Int) (nameS s)))))), IV.ptr (0 : Nat) (2 : Nat),
 IV.bool (fC (Row.fm (rowOf (Prod.fst (lkp rows (1 : Int) (nameS s)))))), IV.ptr (0 : Nat) (3 : Nat)])) ∧
 some (TV.v (IV.int IntKind.i64 (3 : Int))) = some (TV.v (IV.int IntKind.i64 (3 : Int))) ∧
 some (TV.v (IV.int IntKind.i64 (0 : Int))) = some (TV.v (IV.int IntKind.i64 (0 : Int))) ∧
 some [IV.int IntKind.i64 (0 : Int), IV.int IntKind.i64 (0 : Int), IV.int IntKind.i64 (0 : Int), IV.int IntKind.i64 (0 : Int), IV.int IntKind.i64 (0 : Int)] =
 some [IV.int IntKind.i64 (0 : Int), IV.int IntKind.i64 (0 : Int), IV.int IntKind.i64 (0 : Int), IV.int IntKind.i64 (0 : Int), IV.int IntKind.i64 (0 : Int)] ∧
 Heap.mk
 (PT.node PT.nil
 (some (IObj.cells [IV.int IntKind.i64 (Prod.fst (lkp rows (1 : Int) (nameS s))), IV.int IntKind.i64 (0 : Int), IV.int IntKind.i64 (0 : Int), IV.int IntKind.i64 (0 : Int), IV.int IntKind.i64 (0 : Int)]))
 PT.nil)
 ((0 : Nat) + (1 : Nat)) =
 Heap.mk
 (PT.node PT.nil
 (some (IObj.cells [IV.int IntKind.i64 (Prod.fst (lkp rows (1 : Int) (nameS s))), IV.int IntKind.i64 (0 : Int), IV.int IntKind.i64 (0 : Int), IV.int IntKind.i64 (0 : Int), IV.int IntKind.i64 (0 : Int)]))
 PT.nil)
 (1 : Nat) ∧
 (Prod.snd (lkp rows (1 : Int) (nameS s)) = true ∧ PC (0 : Nat) s (Prod.fst (lkp rows (1 : Int) (nameS s))) (0 : Int) (0 : Int) (0 : Int) x) ∧ True) ∨
 (∃ (x : Int × List (List UInt8)),
 some (TV.v (IV.str s)) = some (TV.v (IV.str s)) ∧
 some (TV.l (2 : Nat) (0 : Nat)) = some (TV.l (2 : Nat) (0 : Nat)) ∧
 some (TV.v (IV.vslice none (0 : Nat) (List.length (pcsS s)) (1 : Nat) (List.map IV.str (pcsS s)))) = some (TV.v (IV.vslice none (0 : Nat) (List.length (Prod.snd x)) (1 : Nat) (List.map IV.str (Prod.snd x)))) ∧
 some (TV.v (IV.int IntKind.i64 (Prod.fst (lkp rows (1 : Int) (nameS s))))) = some (TV.v (IV.int IntKind.i64 (Prod.fst (lkp rows (1 : Int) (nameS s))))) ∧
 some (TV.v (IV.bool (fN (Row.fm (rowOf (Prod.fst (lkp rows (1 : Int) (nameS s)))))))) = some (TV.v (IV.bool (fN (Row.fm (rowOf (Prod.fst (lkp rows (1 : Int) (nameS s)))))))) ∧
 some (TV.v (IV.ptr (0 : Nat) (0 : Nat))) = some (TV.v (IV.ptr (0 : Nat) (0 : Nat))) ∧
 some
 (TV.v
 (IV.vslice none (1 : Nat) (3 : Nat) (2 : Nat)
 [IV.bool (fA (Row.fm (rowOf (Prod.fst (lkp rows (1 : Int) (nameS s)))))), IV.ptr (0 : Nat) (1 : Nat), IV.bool (fB (Row.fm (rowOf (Prod.fst (lkp rows (1 : Int) (nameS s)))))), IV.ptr (0 : Nat) (2 : Nat),
 IV.bool (fC (Row.fm (rowOf (Prod.fst (lkp rows (1 : Int) (nameS s)))))), IV.ptr (0 : Nat) (3 : Nat)])) =
 some
 (TV.v
 (IV.vslice none (1 : Nat) (3 : Nat) (2 : Nat)
 [IV.bool (fA (Row.fm (rowOf (Prod.fst (lkp rows (1 : Int) (nameS s)))))), IV.ptr (0 : Nat) (1 : Nat), IV.bool (fB (Row.fm (rowOf (Prod.fst (lkp rows (1 : Int) (nameS s)))))), IV.ptr (0 : Nat) (2 : Nat),
 IV.bool (fC (Row.fm (rowOf (Prod.fst (lkp rows (1 : Int) (nameS s)))))), IV.ptr (0 : Nat) (3 : Nat)])) ∧
 some (TV.v (IV.int IntKind.i64 (3 : Int))) = some (TV.v (IV.int IntKind.i64 (3 : Int))) ∧
 some (TV.v (IV.int IntKind.i64 (0 : Int))) = some (TV.v (IV.int IntKind.i64 (1 : Int))) ∧
 some [IV.int IntKind.i64 (0 : Int), IV.int IntKind.i64 (0 : Int), IV.int IntKind.i64 (0 : Int), IV.int IntKind.i64 (0 : Int), IV.int IntKind.i64 (0 : Int)] =
 some [IV.int IntKind.i64 (0 : Int), IV.int IntKind.i64 (0 : Int), IV.int IntKind.i64 (0 : Int), IV.int IntKind.i64 (0 : Int), IV.int IntKind.i64 (0 : Int)] ∧
 Heap.mk
 (PT.node PT.nil
 (some
 (IObj.cells [IV.int IntKind.i64 (Prod.fst (lkp rows (1 : Int) (nameS s))), IV.int IntKind.i64 (0 : Int), IV.int IntKind.i64 (0 : Int), IV.int IntKind.i64 (0 : Int), IV.int IntKind.i64 (0 : Int)]))
 PT.nil)
 ((0 : Nat) + (1 : Nat)) =
 Heap.mk
 (PT.node PT.nil
 (some
 (IObj.cells
 [IV.int IntKind.i64 (Prod.fst (lkp rows (1 : Int) (nameS s))), IV.int IntKind.i64 (Prod.fst x), IV.int IntKind.i64 (0 : Int), IV.int IntKind.i64 (0 : Int), IV.int IntKind.i64 (0 : Int)]))
 PT.nil)
 (1 : Nat) ∧
 (Prod.snd (lkp rows (1 : Int) (nameS s)) = true ∧ PC (1 : Nat) s (Prod.fst (lkp rows (1 : Int) (nameS s))) (Prod.fst x) (0 : Int) (0 : Int) (Prod.snd x)) ∧ True) ∨
 (∃ (x : Int × Int × List (List UInt8)),
 some (TV.v (IV.str s)) = some (TV.v (IV.str s)) ∧
 some (TV.l (2 : Nat) (0 : Nat)) = some (TV.l (2 : Nat) (0 : Nat)) ∧
 some (TV.v (IV.vslice none (0 : Nat) (List.length (pcsS s)) (1 : Nat) (List.map IV.str (pcsS s)))) =
 some (TV.v (IV.vslice none (0 : Nat) (List.length (Prod.snd (Prod.snd x))) (1 : Nat) (List.map IV.str (Prod.snd (Prod.snd x))))) ∧
 some (TV.v (IV.int IntKind.i64 (Prod.fst (lkp rows (1 : Int) (nameS s))))) = some (TV.v (IV.int IntKind.i64 (Prod.fst (lkp rows (1 : Int) (nameS s))))) ∧
 some (TV.v (IV.bool (fN (Row.fm (rowOf (Prod.fst (lkp rows (1 : Int) (nameS s)))))))) = some (TV.v (IV.bool (fN (Row.fm (rowOf (Prod.fst (lkp rows (1 : Int) (nameS s)))))))) ∧
 some (TV.v (IV.ptr (0 : Nat) (0 : Nat))) = some (TV.v (IV.ptr (0 : Nat) (0 : Nat))) ∧
 some
 (TV.v
 (IV.vslice none (1 : Nat) (3 : Nat) (2 : Nat)
 [IV.bool (fA (Row.fm (rowOf (Prod.fst (lkp rows (1 : Int) (nameS s)))))), IV.ptr (0 : Nat) (1 : Nat), IV.bool (fB (Row.fm (rowOf (Prod.fst (lkp rows (1 : Int) (nameS s)))))), IV.ptr (0 : Nat) (2 : Nat),
 IV.bool (fC (Row.fm (rowOf (Prod.fst (lkp rows (1 : Int) (nameS s)))))), IV.ptr (0 : Nat) (3 : Nat)])) =
 some
 (TV.v
 (IV.vslice none (1 : Nat) (3 : Nat) (2 : Nat)
 [IV.bool (fA (Row.fm (rowOf (Prod.fst (lkp rows (1 : Int) (nameS s)))))), IV.ptr (0 : Nat) (1 : Nat), IV.bool (fB (Row.fm (rowOf (Prod.fst (lkp rows (1 : Int) (nameS s)))))), IV.ptr (0 : Nat) (2 : Nat),
 IV.bool (fC (Row.fm (rowOf (Prod.fst (lkp rows (1 : Int) (nameS s)))))), IV.ptr (0 : Nat) (3 : Nat)])) ∧
 some (TV.v (IV.int IntKind.i64 (3 : Int))) = some (TV.v (IV.int IntKind.i64 (3 : Int))) ∧
 some (TV.v (IV.int IntKind.i64 (0 : Int))) = some (TV.v (IV.int IntKind.i64 (2 : Int))) ∧
 some [IV.int IntKind.i64 (0 : Int), IV.int IntKind.i64 (0 : Int), IV.int IntKind.i64 (0 : Int), IV.int IntKind.i64 (0 : Int), IV.int IntKind.i64 (0 : Int)] =
 some [IV.int IntKind.i64 (0 : Int), IV.int IntKind.i64 (0 : Int), IV.int IntKind.i64 (0 : Int), IV.int IntKind.i64 (0 : Int), IV.int IntKind.i64 (0 : Int)] ∧
 Heap.mk
 (PT.node PT.nil
 (some
 (IObj.cells [IV.int IntKind.i64 (Prod.fst (lkp rows (1 : Int) (nameS s))), IV.int IntKind.i64 (0 : Int), IV.int IntKind.i64 (0 : Int), IV.int IntKind.i64 (0 : Int), IV.int IntKind.i64 (0 : Int)]))
 PT.nil)
 ((0 : Nat) + (1 : Nat)) =
 Heap.mk
 (PT.node PT.nil
 (some
 (IObj.cells
 [IV.int IntKind.i64 (Prod.fst (lkp rows (1 : Int) (nameS s))), IV.int IntKind.i64 (Prod.fst x), IV.int IntKind.i64 (Prod.fst (Prod.snd x)), IV.int IntKind.i64 (0 : Int),
 IV.int IntKind.i64 (0 : Int)]))
 PT.nil)
 (1 : Nat) ∧
 (Prod.snd (lkp rows (1 : Int) (nameS s)) = true ∧ PC (2 : Nat) s (Prod.fst (lkp rows (1 : Int) (nameS s))) (Prod.fst x) (Prod.fst (Prod.snd x)) (0 : Int) (Prod.snd (Prod.snd x))) ∧ True) ∨
 ∃ (x : Int × Int × Int × List (List UInt8)),
 some (TV.v (IV.str s)) = some (TV.v (IV.str s)) ∧
 some (TV.l (2 : Nat) (0 : Nat)) = some (TV.l (2 : Nat) (0 : Nat)) ∧
 some (TV.v (IV.vslice none (0 : Nat) (List.length (pcsS s)) (1 : Nat) (List.map IV.str (pcsS s)))) =
 some (TV.v (IV.vslice none (0 : Nat) (List.length (Prod.snd (Prod.snd (Prod.snd x)))) (1 : Nat) (List.map IV.str (Prod.snd (Prod.snd (Prod.snd x)))))) ∧
 some (TV.v (IV.int IntKind.i64 (Prod.fst (lkp rows (1 : Int) (nameS s))))) = some (TV.v (IV.int IntKind.i64 (Prod.fst (lkp rows (1 : Int) (nameS s))))) ∧
 some (TV.v (IV.bool (fN (Row.fm (rowOf (Prod.fst (lkp rows (1 : Int) (nameS s)))))))) = some (TV.v (IV.bool (fN (Row.fm (rowOf (Prod.fst (lkp rows (1 : Int) (nameS s)))))))) ∧
 some (TV.v (IV.ptr (0 : Nat) (0 : Nat))) = some (TV.v (IV.ptr (0 : Nat) (0 : Nat))) ∧
 some
 (TV.v
 (IV.vslice none (1 : Nat) (3 : Nat) (2 : Nat)
 [IV.bool (fA (Row.fm (rowOf (Prod.fst (lkp rows (1 : Int) (nameS s)))))), IV.ptr (0 : Nat) (1 : Nat), IV.bool (fB (Row.fm (rowOf (Prod.fst (lkp rows (1 : Int) (nameS s)))))), IV.ptr (0 : Nat) (2 : Nat),
 IV.bool (fC (Row.fm (rowOf (Prod.fst (lkp rows (1 : Int) (nameS s)))))), IV.ptr (0 : Nat) (3 : Nat)])) =
 some
 (TV.v
 (IV.vslice none (1 : Nat) (3 : Nat) (2 : Nat)
 [IV.bool (fA (Row.fm (rowOf (Prod.fst (lkp rows (1 : Int) (nameS s)))))), IV.ptr (0 : Nat) (1 : Nat), IV.bool (fB (Row.fm (rowOf (Prod.fst (lkp rows (1 : Int) (nameS s)))))), IV.ptr (0 : Nat) (2 : Nat),
 IV.bool (fC (Row.fm (rowOf (Prod.fst (lkp rows (1 : Int) (nameS s)))))), IV.ptr (0 : Nat) (3 : Nat)])) ∧
 some (TV.v (IV.int IntKind.i64 (3 : Int))) = some (TV.v (IV.int IntKind.i64 (3 : Int))) ∧
 some (TV.v (IV.int IntKind.i64 (0 : Int))) = some (TV.v (IV.int IntKind.i64 (3 : Int))) ∧
 some [IV.int IntKind.i64 (0 : Int), IV.int IntKind.i64 (0 : Int), IV.int IntKind.i64 (0 : Int), IV.int IntKind.i64 (0 : Int), IV.int IntKind.i64 (0 : Int)] =
 some [IV.int IntKind.i64 (0 : Int), IV.int IntKind.i64 (0 : Int), IV.int IntKind.i64 (0 : Int), IV.int IntKind.i64 (0 : Int), IV.int IntKind.i64 (0 : Int)] ∧
 Heap.mk
 (PT.node PT.nil
 (some
 (IObj.cells [IV.int IntKind.i64 (Prod.fst (lkp rows (1 : Int) (nameS s))), IV.int IntKind.i64 (0 : Int), IV.int IntKind.i64 (0 : Int), IV.int IntKind.i64 (0 : Int), IV.int IntKind.i64 (0 : Int)]))
 PT.nil)
 ((0 : Nat) + (1 : Nat)) =
 Heap.mk
 (PT.node PT.nil
 (some
 (IObj.cells
 [IV.int IntKind.i64 (Prod.fst (lkp rows (1 : Int) (nameS s))), IV.int IntKind.i64 (Prod.fst x), IV.int IntKind.i64 (Prod.fst (Prod.snd x)), IV.int IntKind.i64 (Prod.fst (Prod.snd (Prod.snd x))),
 IV.int IntKind.i64 (0 : Int)]))
 PT.nil)
 (1 : Nat) ∧
 (Prod.snd (lkp rows (1 : Int) (nameS s)) = true ∧
 PC (3 : Nat) s (Prod.fst (lkp rows (1 : Int) (nameS s))) (Prod.fst x) (Prod.fst (Prod.snd x)) (Prod.fst (Prod.snd (Prod.snd x))) (Prod.snd (Prod.snd (Prod.snd x)))) ∧
 True) ∧
 (∀ (x : List (List UInt8)) (b : FF),
 Prod.snd (lkp rows (1 : Int) (nameS s)) = true ∧ PC (0 : Nat) s (Prod.fst (lkp rows (1 : Int) (nameS s))) (0 : Int) (0 : Int) (0 : Int) x →
 brS (!fA (Row.fm (rowOf (Prod.fst (lkp rows (1 : Int) (nameS s))))))
 ((∃ (x_1 : List (List UInt8)),
 some (TV.v (IV.str s)) = some (TV.v (IV.str s)) ∧
 some (TV.l (2 : Nat) (0 : Nat)) = some (TV.l (2 : Nat) (0 : Nat)) ∧
 some (TV.v (IV.vslice none (0 : Nat) (List.length x) (1 : Nat) (List.map IV.str x))) = some (TV.v (IV.vslice none (0 : Nat) (List.length x_1) (1 : Nat) (List.map IV.str x_1))) ∧
 some (TV.v (IV.int IntKind.i64 (Prod.fst (lkp rows (1 : Int) (nameS s))))) = some (TV.v (IV.int IntKind.i64 (Prod.fst (lkp rows (1 : Int) (nameS s))))) ∧
 some (TV.v (IV.bool (fN (Row.fm (rowOf (Prod.fst (lkp rows (1 : Int) (nameS s)))))))) = some (TV.v (IV.bool (fN (Row.fm (rowOf (Prod.fst (lkp rows (1 : Int) (nameS s)))))))) ∧
 some (TV.v (IV.ptr (0 : Nat) (0 : Nat))) = some (TV.v (IV.ptr (0 : Nat) (0 : Nat))) ∧
 some
 (TV.v
 (IV.vslice none (1 : Nat) (3 : Nat) (2 : Nat)
 [IV.bool (fA (Row.fm (rowOf (Prod.fst (lkp rows (1 : Int) (nameS s)))))), IV.ptr (0 : Nat) (1 : Nat), IV.bool (fB (Row.fm (rowOf (Prod.fst (lkp rows (1 : Int) (nameS s)))))),
 IV.ptr (0 : Nat) (2 : Nat), IV.bool (fC (Row.fm (rowOf (Prod.fst (lkp rows (1 : Int) (nameS s)))))), IV.ptr (0 : Nat) (3 : Nat)])) =
 some
 (TV.v
 (IV.vslice none (1 : Nat) (3 : Nat) (2 : Nat)
 [IV.bool (fA (Row.fm (rowOf (Prod.fst (lkp rows (1 : Int) (nameS s)))))), IV.ptr (0 : Nat) (1 : Nat), IV.bool (fB (Row.fm (rowOf (Prod.fst (lkp rows (1 : Int) (nameS s)))))),
 IV.ptr (0 : Nat) (2 : Nat), IV.bool (fC (Row.fm (rowOf (Prod.fst (lkp rows (1 : Int) (nameS s)))))), IV.ptr (0 : Nat) (3 : Nat)])) ∧
 some (TV.v (IV.int IntKind.i64 (3 : Int))) = some (TV.v (IV.int IntKind.i64 (3 : Int))) ∧
 some (TV.v (IV.int IntKind.i64 (1 : Int))) = some (TV.v (IV.int IntKind.i64 (0 : Int))) ∧
 some [IV.int IntKind.i64 (0 : Int), IV.int IntKind.i64 (0 : Int), IV.int IntKind.i64 (0 : Int), IV.int IntKind.i64 (0 : Int), IV.int IntKind.i64 (0 : Int)] =
 some [IV.int IntKind.i64 (0 : Int), IV.int IntKind.i64 (0 : Int), IV.int IntKind.i64 (0 : Int), IV.int IntKind.i64 (0 : Int), IV.int IntKind.i64 (0 : Int)] ∧
 Heap.mk
 (PT.node PT.nil
 (some
 (IObj.cells
 [IV.int IntKind.i64 (Prod.fst (lkp rows (1 : Int) (nameS s))), IV.int IntKind.i64 (0 : Int), IV.int IntKind.i64 (0 : Int), IV.int IntKind.i64 (0 : Int), IV.int IntKind.i64 (0 : Int)]))
 PT.nil)
 (1 : Nat) =
 Heap.mk
 (PT.node PT.nil
 (some
 (IObj.cells
 [IV.int IntKind.i64 (Prod.fst (lkp rows (1 : Int) (nameS s))), IV.int IntKind.i64 (0 : Int), IV.int IntKind.i64 (0 : Int), IV.int IntKind.i64 (0 : Int), IV.int IntKind.i64 (0 : Int)]))
 PT.nil)
 (1 : Nat) ∧
 (Prod.snd (lkp rows (1 : Int) (nameS s)) = true ∧ PC (0 : Nat) s (Prod.fst (lkp rows (1 : Int) (nameS s))) (0 : Int) (0 : Int) (0 : Int) x_1) ∧ (3 : Nat) < (3 : Nat)) ∨
 (∃ (x_1 : Int × List (List UInt8)),
 some (TV.v (IV.str s)) = some (TV.v (IV.str s)) ∧
 some (TV.l (2 : Nat) (0 : Nat)) = some (TV.l (2 : Nat) (0 : Nat)) ∧
 some (TV.v (IV.vslice none (0 : Nat) (List.length x) (1 : Nat) (List.map IV.str x))) = some (TV.v (IV.vslice none (0 : Nat) (List.length (Prod.snd x_1)) (1 : Nat) (List.map IV.str (Prod.snd x_1)))) ∧
 some (TV.v (IV.int IntKind.i64 (Prod.fst (lkp rows (1 : Int) (nameS s))))) = some (TV.v (IV.int IntKind.i64 (Prod.fst (lkp rows (1 : Int) (nameS s))))) ∧
 some (TV.v (IV.bool (fN (Row.fm (rowOf (Prod.fst (lkp rows (1 : Int) (nameS s)))))))) = some (TV.v (IV.bool (fN (Row.fm (rowOf (Prod.fst (lkp rows (1 : Int) (nameS s)))))))) ∧
 some (TV.v (IV.ptr (0 : Nat) (0 : Nat))) = some (TV.v (IV.ptr (0 : Nat) (0 : Nat))) ∧
 some
 (TV.v
 (IV.vslice none (1 : Nat) (3 : Nat) (2 : Nat)
 [IV.bool (fA (Row.fm (rowOf (Prod.fst (lkp rows (1 : Int) (nameS s)))))), IV.ptr (0 : Nat) (1 : Nat), IV.bool (fB (Row.fm (rowOf (Prod.fst (lkp rows (1 : Int) (nameS s)))))),
 IV.ptr (0 : Nat) (2 : Nat), IV.bool (fC (Row.fm (rowOf (Prod.fst (lkp rows (1 : Int) (nameS s)))))), IV.ptr (0 : Nat) (3 : Nat)])) =
 some
 (TV.v
 (IV.vslice none (1 : Nat) (3 : Nat) (2 : Nat)
 [IV.bool (fA (Row.fm (rowOf (Prod.fst (lkp rows (1 : Int) (nameS s)))))), IV.ptr (0 : Nat) (1 : Nat), IV.bool (fB (Row.fm (rowOf (Prod.fst (lkp rows (1 : Int) (nameS s)))))),
 IV.ptr (0 : Nat) (2 : Nat), IV.bool (fC (Row.fm (rowOf (Prod.fst (lkp rows (1 : Int) (nameS s)))))), IV.ptr (0 : Nat) (3 : Nat)])) ∧
 some (TV.v (IV.int IntKind.i64 (3 : Int))) = some (TV.v (IV.int IntKind.i64 (3 : Int))) ∧
 some (TV.v (IV.int IntKind.i64 (1 : Int))) = some (TV.v (IV.int IntKind.i64 (1 : Int))) ∧
 some [IV.int IntKind.i64 (0 : Int), IV.int IntKind.i64 (0 : Int), IV.int IntKind.i64 (0 : Int), IV.int IntKind.i64 (0 : Int), IV.int IntKind.i64 (0 : Int)] =
 some [IV.int IntKind.i64 (0 : Int), IV.int IntKind.i64 (0 : Int), IV.int IntKind.i64 (0 : Int), IV.int IntKind.i64 (0 : Int), IV.int IntKind.i64 (0 : Int)] ∧
 Heap.mk
 (PT.node PT.nil
 (some
 (IObj.cells
 [IV.int IntKind.i64 (Prod.fst (lkp rows (1 : Int) (nameS s))), IV.int IntKind.i64 (0 : Int), IV.int IntKind.i64 (0 : Int), IV.int IntKind.i64 (0 : Int), IV.int IntKind.i64 (0 : Int)]))
 PT.nil)
 (1 : Nat) =
 Heap.mk
 (PT.node PT.nil
 (some
 (IObj.cells
 [IV.int IntKind.i64 (Prod.fst (lkp rows (1 : Int) (nameS s))), IV.int IntKind.i64 (Prod.fst x_1), IV.int IntKind.i64 (0 : Int), IV.int IntKind.i64 (0 : Int),
 IV.int IntKind.i64 (0 : Int)]))
 PT.nil)
 (1 : Nat) ∧
 (Prod.snd (lkp rows (1 : Int) (nameS s)) = true ∧ PC (1 : Nat) s (Prod.fst (lkp rows (1 : Int) (nameS s))) (Prod.fst x_1) (0 : Int) (0 : Int) (Prod.snd x_1)) ∧ (2 : Nat) < (3 : Nat)) ∨
 (∃ (x_1 : Int × Int × List (List UInt8)),
 some (TV.v (IV.str s)) = some (TV.v (IV.str s)) ∧
 some (TV.l (2 : Nat) (0 : Nat)) = some (TV.l (2 : Nat) (0 : Nat)) ∧
 some (TV.v (IV.vslice none (0 : Nat) (List.length x) (1 : Nat) (List.map IV.str x))) =
 some (TV.v (IV.vslice none (0 : Nat) (List.length (Prod.snd (Prod.snd x_1))) (1 : Nat) (List.map IV.str (Prod.snd (Prod.snd x_1))))) ∧
 some (TV.v (IV.int IntKind.i64 (Prod.fst (lkp rows (1 : Int) (nameS s))))) = some (TV.v (IV.int IntKind.i64 (Prod.fst (lkp rows (1 : Int) (nameS s))))) ∧
 some (TV.v (IV.bool (fN (Row.fm (rowOf (Prod.fst (lkp rows (1 : Int) (nameS s)))))))) = some (TV.v (IV.bool (fN (Row.fm (rowOf (Prod.fst (lkp rows (1 : Int) (nameS s)))))))) ∧
 some (TV.v (IV.ptr (0 : Nat) (0 : Nat))) = some (TV.v (IV.ptr (0 : Nat) (0 : Nat))) ∧
 some
 (TV.v
 (IV.vslice none (1 : Nat) (3 : Nat) (2 : Nat)
 [IV.bool (fA (Row.fm (rowOf (Prod.fst (lkp rows (1 : Int) (nameS s)))))), IV.ptr (0 : Nat) (1 : Nat), IV.bool (fB (Row.fm (rowOf (Prod.fst (lkp rows (1 : Int) (nameS s)))))),
 IV.ptr (0 : Nat) (2 : Nat), IV.bool (fC (Row.fm (rowOf (Prod.fst (lkp rows (1 : Int) (nameS s)))))), IV.ptr (0 : Nat) (3 : Nat)])) =
 some
 (TV.v
 (IV.vslice none (1 : Nat) (3 : Nat) (2 : Nat)
 [IV.bool (fA (Row.fm (rowOf (Prod.fst (lkp rows (1 : Int) (nameS s)))))), IV.ptr (0 : Nat) (1 : Nat), IV.bool (fB (Row.fm (rowOf (Prod.fst (lkp rows (1 : Int) (nameS s)))))),
 IV.ptr (0 : Nat) (2 : Nat), IV.bool (fC (Row.fm (rowOf (Prod.fst (lkp rows (1 : Int) (nameS s)))))), IV.ptr (0 : Nat) (3 : Nat)])) ∧
 some (TV.v (IV.int IntKind.i64 (3 : Int))) = some (TV.v (IV.int IntKind.i64 (3 : Int))) ∧
 some (TV.v (IV.int IntKind.i64 (1 : Int))) = some (TV.v (IV.int IntKind.i64 (2 : Int))) ∧
 some [IV.int IntKind.i64 (0 : Int), IV.int IntKind.i64 (0 : Int), IV.int IntKind.i64 (0 : Int), IV.int IntKind.i64 (0 : Int), IV.int IntKind.i64 (0 : Int)] =
 some [IV.int IntKind.i64 (0 : Int), IV.int IntKind.i64 (0 : Int), IV.int IntKind.i64 (0 : Int), IV.int IntKind.i64 (0 : Int), IV.int IntKind.i64 (0 : Int)] ∧
 Heap.mk
 (PT.node PT.nil
 (some
 (IObj.cells
 [IV.int IntKind.i64 (Prod.fst (lkp rows (1 : Int) (nameS s))), IV.int IntKind.i64 (0 : Int), IV.int IntKind.i64 (0 : Int), IV.int IntKind.i64 (0 : Int), IV.int IntKind.i64 (0 : Int)]))
 PT.nil)
 (1 : Nat) =
 Heap.mk
 (PT.node PT.nil
 (some
 (IObj.cells
 [IV.int IntKind.i64 (Prod.fst (lkp rows (1 : Int) (nameS s))), IV.int IntKind.i64 (Prod.fst x_1), IV.int IntKind.i64 (Prod.fst (Prod.snd x_1)), IV.int IntKind.i64 (0 : Int),
 IV.int IntKind.i64 (0 : Int)]))
 PT.nil)
 (1 : Nat) ∧
 (Prod.snd (lkp rows (1 : Int) (nameS s)) = true ∧ PC (2 : Nat) s (Prod.fst (lkp rows (1 : Int) (nameS s))) (Prod.fst x_1) (Prod.fst (Prod.snd x_1)) (0 : Int) (Prod.snd (Prod.snd x_1))) ∧
 (1 : Nat) < (3 : Nat)) ∨
 ∃ (x_1 : Int × Int × Int × List (List UInt8)),
 some (TV.v (IV.str s)) = some (TV.v (IV.str s)) ∧
 some (TV.l (2 : Nat) (0 : Nat)) = some (TV.l (2 : Nat) (0 : Nat)) ∧
 some (TV.v (IV.vslice none (0 : Nat) (List.length x) (1 : Nat) (List.map IV.str x))) =
 some (TV.v (IV.vslice none (0 : Nat) (List.length (Prod.snd (Prod.snd (Prod.snd x_1)))) (1 : Nat) (List.map IV.str (Prod.snd (Prod.snd (Prod.snd x_1)))))) ∧
 some (TV.v (IV.int IntKind.i64 (Prod.fst (lkp rows (1 : Int) (nameS s))))) = some (TV.v (IV.int IntKind.i64 (Prod.fst (lkp rows (1 : Int) (nameS s))))) ∧
 some (TV.v (IV.bool (fN (Row.fm (rowOf (Prod.fst (lkp rows (1 : Int) (nameS s)))))))) = some (TV.v (IV.bool (fN (Row.fm (rowOf (Prod.fst (lkp rows (1 : Int) (nameS s)))))))) ∧
 some (TV.v (IV.ptr (0 : Nat) (0 : Nat))) = some (TV.v (IV.ptr (0 : Nat) (0 : Nat))) ∧
 some
 (TV.v
 (IV.vslice none (1 : Nat) (3 : Nat) (2 : Nat)
 [IV.bool (fA (Row.fm (rowOf (Prod.fst (lkp rows (1 : Int) (nameS s)))))), IV.ptr (0 : Nat) (1 : Nat), IV.bool (fB (Row.fm (rowOf (Prod.fst (lkp rows (1 : Int) (nameS s)))))),
 IV.ptr (0 : Nat) (2 : Nat), IV.bool (fC (Row.fm (rowOf (Prod.fst (lkp rows (1 : Int) (nameS s)))))), IV.ptr (0 : Nat) (3 : Nat)])) =
 some
 (TV.v
 (IV.vslice none (1 : Nat) (3 : Nat) (2 : Nat)
 [IV.bool (fA (Row.fm (rowOf (Prod.fst (lkp rows (1 : Int) (nameS s)))))), IV.ptr (0 : Nat) (1 : Nat), IV.bool (fB (Row.fm (rowOf (Prod.fst (lkp rows (1 : Int) (nameS s)))))),
 IV.ptr (0 : Nat) (2 : Nat), IV.bool (fC (Row.fm (rowOf (Prod.fst (lkp rows (1 : Int) (nameS s)))))), IV.ptr (0 : Nat) (3 : Nat)])) ∧
 some (TV.v (IV.int IntKind.i64 (3 : Int))) = some (TV.v (IV.int IntKind.i64 (3 : Int))) ∧
 some (TV.v (IV.int IntKind.i64 (1 : Int))) = some (TV.v (IV.int IntKind.i64 (3 : Int))) ∧
 some [IV.int IntKind.i64 (0 : Int), IV.int IntKind.i64 (0 : Int), IV.int IntKind.i64 (0 : Int), IV.int IntKind.i64 (0 : Int), IV.int IntKind.i64 (0 : Int)] =
 some [IV.int IntKind.i64 (0 : Int), IV.int IntKind.i64 (0 : Int), IV.int IntKind.i64 (0 : Int), IV.int IntKind.i64 (0 : Int), IV.int IntKind.i64 (0 : Int)] ∧
 Heap.mk
 (PT.node PT.nil
 (some
 (IObj.cells
 [IV.int IntKind.i64 (Prod.fst (lkp rows (1 : Int) (nameS s))), IV.int IntKind.i64 (0 : Int), IV.int IntKind.i64 (0 : Int), IV.int IntKind.i64 (0 : Int), IV.int IntKind.i64 (0 : Int)]))
 PT.nil)
 (1 : Nat) =
 Heap.mk
 (PT.node PT.nil
 (some
 (IObj.cells
 [IV.int IntKind.i64 (Prod.fst (lkp rows (1 : Int) (nameS s))), IV.int IntKind.i64 (Prod.fst x_1), IV.int IntKind.i64 (Prod.fst (Prod.snd x_1)),
 IV.int IntKind.i64 (Prod.fst (Prod.snd (Prod.snd x_1))), IV.int IntKind.i64 (0 : Int)]))
 PT.nil)
 (1 : Nat) ∧
 (Prod.snd (lkp rows (1 : Int) (nameS s)) = true ∧
 PC (3 : Nat) s (Prod.fst (lkp rows (1 : Int) (nameS s))) (Prod.fst x_1) (Prod.fst (Prod.snd x_1)) (Prod.fst (Prod.snd (Prod.snd x_1))) (Prod.snd (Prod.snd (Prod.snd x_1)))) ∧
 (0 : Nat) < (3 : Nat))
 (brS ((↑(List.length x) : Int) == (0 : Int))
 (Q (IV.tuple [IV.agg [IV.int IntKind.i64 (0 : Int), IV.int IntKind.i64 (0 : Int), IV.int IntKind.i64 (0 : Int), IV.int IntKind.i64 (0 : Int), IV.int IntKind.i64 (0 : Int)], IV.bool false]) h)
 (needS (true && decide ((0 : Int) < (↑(List.length x) : Int)))
 (ldSS (List.map IV.str x) (0 : Nat) fun (s0 : List UInt8) =>
 ∀ (v : Int),
 (-9223372036854775808 : Int) ≤ v ∧ v ≤ (9223372036854775807 : Int) →
 (∀ (n : Int), (0 : Int) ≤ n → n ≤ (7 : Int) → s0 = (114 : UInt8) :: txt n → v = n) →
 brS (Prod.fst (lkp rows (1 : Int) (nameS s)) == (6 : Int))
 (needS (true && decide ((0 : Int) < (↑(List.length x) : Int)))
 (ldSS (List.map IV.str x) (0 : Nat) fun (s1 : List UInt8) =>
 ∀ (v : Int) (b : Bool),
 (-9223372036854775808 : Int) ≤ v ∧ v ≤ (9223372036854775807 : Int) →
 (∀ (n : Int), (-9223372036854775808 : Int) ≤ n ∧ n ≤ (9223372036854775807 : Int) → s1 = txt n → v = n ∧ b = true) →
 brS (!b) (Q (IV.tuple [IV.agg [IV.int IntKind.i64 (0 : Int), IV.int IntKind.i64 (0 : Int), IV.int IntKind.i64 (0 : Int), IV.int IntKind.i64 (0 : Int), IV.int IntKind.i64 (0 : Int)], IV.bool false]) h)
 (brS (decide (v < (0 : Int)))
 (Q (IV.tuple [IV.agg [IV.int IntKind.i64 (0 : Int), IV.int IntKind.i64 (0 : Int), IV.int IntKind.i64 (0 : Int), IV.int IntKind.i64 (0 : Int), IV.int IntKind.i64 (0 : Int)], IV.bool false]) h)
 (brS (decide (v > (6 : Int)))
 (Q (IV.tuple [IV.agg [IV.int IntKind.i64 (0 : Int), IV.int IntKind.i64 (0 : Int), IV.int IntKind.i64 (0 : Int), IV.int IntKind.i64 (0 : Int), IV.int IntKind.i64 (0 : Int)], IV.bool false]) h)
 (needS (true && (decide ((1 : Int) ≤ (↑(List.length x) : Int)) && decide ((↑(List.length x) : Int) ≤ (↑(List.length x) : Int))))
 ((∃ (x_1 : List (List UInt8)),
 some (TV.v (IV.str s)) = some (TV.v (IV.str s)) ∧
 some (TV.l (2 : Nat) (0 : Nat)) = some (TV.l (2 : Nat) (0 : Nat)) ∧
 some
 (TV.v
 (IV.vslice none ((0 : Nat) - (List.length x - Int.toNat (↑(List.length x) : Int)) * (1 : Nat)) (Int.toNat (↑(List.length x) : Int) - (1 : Nat)) (1 : Nat)
 (List.take ((Int.toNat (↑(List.length x) : Int) - (1 : Nat)) * (1 : Nat)) (List.drop (1 : Nat) (List.map IV.str x))))) =
 some (TV.v (IV.vslice none (0 : Nat) (List.length x_1) (1 : Nat) (List.map IV.str x_1))) ∧
 some (TV.v (IV.int IntKind.i64 (Prod.fst (lkp rows (1 : Int) (nameS s))))) = some (TV.v (IV.int IntKind.i64 (Prod.fst (lkp rows (1 : Int) (nameS s))))) ∧
 some (TV.v (IV.bool (fN (Row.fm (rowOf (Prod.fst (lkp rows (1 : Int) (nameS s)))))))) = some (TV.v (IV.bool (fN (Row.fm (rowOf (Prod.fst (lkp rows (1 : Int) (nameS s)))))))) ∧
 some (TV.v (IV.ptr (0 : Nat) (0 : Nat))) = some (TV.v (IV.ptr (0 : Nat) (0 : Nat))) ∧
 some
 (TV.v
 (IV.vslice none (1 : Nat) (3 : Nat) (2 : Nat)
 [IV.bool (fA (Row.fm (rowOf (Prod.fst (lkp rows (1 : Int) (nameS s)))))), IV.ptr (0 : Nat) (1 : Nat),
 IV.bool (fB (Row.fm (rowOf (Prod.fst (lkp rows (1 : Int) (nameS s)))))), IV.ptr (0 : Nat) (2 : Nat),
 IV.bool (fC (Row.fm (rowOf (Prod.fst (lkp rows (1 : Int) (nameS s)))))), IV.ptr (0 : Nat) (3 : Nat)])) =
 some
 (TV.v
 (IV.vslice none (1 : Nat) (3 : Nat) (2 : Nat)
 [IV.bool (fA (Row.fm (rowOf (Prod.fst (lkp rows (1 : Int) (nameS s)))))), IV.ptr (0 : Nat) (1 : Nat),
 IV.bool (fB (Row.fm (rowOf (Prod.fst (lkp rows (1 : Int) (nameS s)))))), IV.ptr (0 : Nat) (2 : Nat),
 IV.bool (fC (Row.fm (rowOf (Prod.fst (lkp rows (1 : Int) (nameS s)))))), IV.ptr (0 : Nat) (3 : Nat)])) ∧
 some (TV.v (IV.int IntKind.i64 (3 : Int))) = some (TV.v (IV.int IntKind.i64 (3 : Int))) ∧
 some (TV.v (IV.int IntKind.i64 (1 : Int))) = some (TV.v (IV.int IntKind.i64 (0 : Int))) ∧
 some [IV.int IntKind.i64 (0 : Int), IV.int IntKind.i64 (0 : Int), IV.int IntKind.i64 (0 : Int), IV.int IntKind.i64 (0 : Int), IV.int IntKind.i64 (0 : Int)] =
 some [IV.int IntKind.i64 (0 : Int), IV.int IntKind.i64 (0 : Int), IV.int IntKind.i64 (0 : Int), IV.int IntKind.i64 (0 : Int), IV.int IntKind.i64 (0 : Int)] ∧
 Heap.mk
 (PT.node PT.nil
 (some
 (IObj.cells
 [IV.int IntKind.i64 (Prod.fst (lkp rows (1 : Int) (nameS s))), IV.int IntKind.i64 v, IV.int IntKind.i64 (0 : Int), IV.int IntKind.i64 (0 : Int),
 IV.int IntKind.i64 (0 : Int)]))
 PT.nil)
 (1 : Nat) =
 Heap.mk
 (PT.node PT.nil
 (some
 (IObj.cells
 [IV.int IntKind.i64 (Prod.fst (lkp rows (1 : Int) (nameS s))), IV.int IntKind.i64 (0 : Int), IV.int IntKind.i64 (0 : Int), IV.int IntKind.i64 (0 : Int),
 IV.int IntKind.i64 (0 : Int)]))
 PT.nil)
 (1 : Nat) ∧
 (Prod.snd (lkp rows (1 : Int) (nameS s)) = true ∧ PC (0 : Nat) s (Prod.fst (lkp rows (1 : Int) (nameS s))) (0 : Int) (0 : Int) (0 : Int) x_1) ∧ (3 : Nat) < (3 : Nat)) ∨
 (∃ (x_1 : Int × List (List UInt8)),
 some (TV.v (IV.str s)) = some (TV.v (IV.str s)) ∧
 some (TV.l (2 : Nat) (0 : Nat)) = some (TV.l (2 : Nat) (0 : Nat)) ∧
 some
 (TV.v
 (IV.vslice none ((0 : Nat) - (List.length x - Int.toNat (↑(List.length x) : Int)) * (1 : Nat)) (Int.toNat (↑(List.length x) : Int) - (1 : Nat)) (1 : Nat)
 (List.take ((Int.toNat (↑(List.length x) : Int) - (1 : Nat)) * (1 : Nat)) (List.drop (1 : Nat) (List.map IV.str x))))) =
 some (TV.v (IV.vslice none (0 : Nat) (List.length (Prod.snd x_1)) (1 : Nat) (List.map IV.str (Prod.snd x_1)))) ∧
 some (TV.v (IV.int IntKind.i64 (Prod.fst (lkp rows (1 : Int) (nameS s))))) = some (TV.v (IV.int IntKind.i64 (Prod.fst (lkp rows (1 : Int) (nameS s))))) ∧
 some (TV.v (IV.bool (fN (Row.fm (rowOf (Prod.fst (lkp rows (1 : Int) (nameS s)))))))) = some (TV.v (IV.bool (fN (Row.fm (rowOf (Prod.fst (lkp rows (1 : Int) (nameS s)))))))) ∧
 some (TV.v (IV.ptr (0 : Nat) (0 : Nat))) = some (TV.v (IV.ptr (0 : Nat) (0 : Nat))) ∧
 some
 (TV.v
 (IV.vslice none (1 : Nat) (3 : Nat) (2 : Nat)
 [IV.bool (fA (Row.fm (rowOf (Prod.fst (lkp rows (1 : Int) (nameS s)))))), IV.ptr (0 : Nat) (1 : Nat),
 IV.bool (fB (Row.fm (rowOf (Prod.fst (lkp rows (1 : Int) (nameS s)))))), IV.ptr (0 : Nat) (2 : Nat),
 IV.bool (fC (Row.fm (rowOf (Prod.fst (lkp rows (1 : Int) (nameS s)))))), IV.ptr (0 : Nat) (3 : Nat)])) =
 some
 (TV.v
 (IV.vslice none (1 : Nat) (3 : Nat) (2 : Nat)
 [IV.bool (fA (Row.fm (rowOf (Prod.fst (lkp rows (1 : Int) (nameS s)))))), IV.ptr (0 : Nat) (1 : Nat),
 IV.bool (fB (Row.fm (rowOf (Prod.fst (lkp rows (1 : Int) (nameS s)))))), IV.ptr (0 : Nat) (2 : Nat),
 IV.bool (fC (Row.fm (rowOf (Prod.fst (lkp rows (1 : Int) (nameS s)))))), IV.ptr (0 : Nat) (3 : Nat)])) ∧
 some (TV.v (IV.int IntKind.i64 (3 : Int))) = some (TV.v (IV.int IntKind.i64 (3 : Int))) ∧
 some (TV.v (IV.int IntKind.i64 (1 : Int))) = some (TV.v (IV.int IntKind.i64 (1 : Int))) ∧
 some [IV.int IntKind.i64 (0 : Int), IV.int IntKind.i64 (0 : Int), IV.int IntKind.i64 (0 : Int), IV.int IntKind.i64 (0 : Int), IV.int IntKind.i64 (0 : Int)] =
 some [IV.int IntKind.i64 (0 : Int), IV.int IntKind.i64 (0 : Int), IV.int IntKind.i64 (0 : Int), IV.int IntKind.i64 (0 : Int), IV.int IntKind.i64 (0 : Int)] ∧
 Heap.mk
 (PT.node PT.nil
 (some
 (IObj.cells
 [IV.int IntKind.i64 (Prod.fst (lkp rows (1 : Int) (nameS s))), IV.int IntKind.i64 v, IV.int IntKind.i64 (0 : Int), IV.int IntKind.i64 (0 : Int),
 IV.int IntKind.i64 (0 : Int)]))
 PT.nil)
 (1 : Nat) =
 Heap.mk
 (PT.node PT.nil
 (some
 (IObj.cells
 [IV.int IntKind.i64 (Prod.fst (lkp rows (1 : Int) (nameS s))), IV.int IntKind.i64 (Prod.fst x_1), IV.int IntKind.i64 (0 : Int),
 IV.int IntKind.i64 (0 : Int), IV.int IntKind.i64 (0 : Int)]))
 PT.nil)
 (1 : Nat) ∧
 (Prod.snd (lkp rows (1 : Int) (nameS s)) = true ∧ PC (1 : Nat) s (Prod.fst (lkp rows (1 : Int) (nameS s))) (Prod.fst x_1) (0 : Int) (0 : Int) (Prod.snd x_1)) ∧
 (2 : Nat) < (3 : Nat)) ∨
 (∃ (x_1 : Int × Int × List (List UInt8)),
 some (TV.v (IV.str s)) = some (TV.v (IV.str s)) ∧
 some (TV.l (2 : Nat) (0 : Nat)) = some (TV.l (2 : Nat) (0 : Nat)) ∧
 some
 (TV.v
 (IV.vslice none ((0 : Nat) - (List.length x - Int.toNat (↑(List.length x) : Int)) * (1 : Nat)) (Int.toNat (↑(List.length x) : Int) - (1 : Nat)) (1 : Nat)
 (List.take ((Int.toNat (↑(List.length x) : Int) - (1 : Nat)) * (1 : Nat)) (List.drop (1 : Nat) (List.map IV.str x))))) =
 some (TV.v (IV.vslice none (0 : Nat) (List.length (Prod.snd (Prod.snd x_1))) (1 : Nat) (List.map IV.str (Prod.snd (Prod.snd x_1))))) ∧
 some (TV.v (IV.int IntKind.i64 (Prod.fst (lkp rows (1 : Int) (nameS s))))) = some (TV.v (IV.int IntKind.i64 (Prod.fst (lkp rows (1 : Int) (nameS s))))) ∧
 some (TV.v (IV.bool (fN (Row.fm (rowOf (Prod.fst (lkp rows (1 : Int) (nameS s)))))))) = some (TV.v (IV.bool (fN (Row.fm (rowOf (Prod.fst (lkp rows (1 : Int) (nameS s)))))))) ∧
 some (TV.v (IV.ptr (0 : Nat) (0 : Nat))) = some (TV.v (IV.ptr (0 : Nat) (0 : Nat))) ∧
 some
 (TV.v
 (IV.vslice none (1 : Nat) (3 : Nat) (2 : Nat)
 [IV.bool (fA (Row.fm (rowOf (Prod.fst (lkp rows (1 : Int) (nameS s)))))), IV.ptr (0 : Nat) (1 : Nat),
 IV.bool (fB (Row.fm (rowOf (Prod.fst (lkp rows (1 : Int) (nameS s)))))), IV.ptr (0 : Nat) (2 : Nat),
 IV.bool (fC (Row.fm (rowOf (Prod.fst (lkp rows (1 : Int) (nameS s)))))), IV.ptr (0 : Nat) (3 : Nat)])) =
 some
 (TV.v
 (IV.vslice none (1 : Nat) (3 : Nat) (2 : Nat)
 [IV.bool (fA (Row.fm (rowOf (Prod.fst (lkp rows (1 : Int) (nameS s)))))), IV.ptr (0 : Nat) (1 : Nat),
 IV.bool (fB (Row.fm (rowOf (Prod.fst (lkp rows (1 : Int) (nameS s)))))), IV.ptr (0 : Nat) (2 : Nat),
 IV.bool (fC (Row.fm (rowOf (Prod.fst (lkp rows (1 : Int) (nameS s)))))), IV.ptr (0 : Nat) (3 : Nat)])) ∧
 some (TV.v (IV.int IntKind.i64 (3 : Int))) = some (TV.v (IV.int IntKind.i64 (3 : Int))) ∧
 some (TV.v (IV.int IntKind.i64 (1 : Int))) = some (TV.v (IV.int IntKind.i64 (2 : Int))) ∧
 some [IV.int IntKind.i64 (0 : Int), IV.int IntKind.i64 (0 : Int), IV.int IntKind.i64 (0 : Int), IV.int IntKind.i64 (0 : Int), IV.int IntKind.i64 (0 : Int)] =
 some [IV.int IntKind.i64 (0 : Int), IV.int IntKind.i64 (0 : Int), IV.int IntKind.i64 (0 : Int), IV.int IntKind.i64 (0 : Int), IV.int IntKind.i64 (0 : Int)] ∧
 Heap.mk
 (PT.node PT.nil
 (some
 (IObj.cells
 [IV.int IntKind.i64 (Prod.fst (lkp rows (1 : Int) (nameS s))), IV.int IntKind.i64 v, IV.int IntKind.i64 (0 : Int), IV.int IntKind.i64 (0 : Int),
 IV.int IntKind.i64 (0 : Int)]))
 PT.nil)
 (1 : Nat) =
 Heap.mk
 (PT.node PT.nil
 (some
 (IObj.cells
 [IV.int IntKind.i64 (Prod.fst (lkp rows (1 : Int) (nameS s))), IV.int IntKind.i64 (Prod.fst x_1), IV.int IntKind.i64 (Prod.fst (Prod.snd x_1)),
 IV.int IntKind.i64 (0 : Int), IV.int IntKind.i64 (0 : Int)]))
 PT.nil)
 (1 : Nat) ∧
 (Prod.snd (lkp rows (1 : Int) (nameS s)) = true ∧
 PC (2 : Nat) s (Prod.fst (lkp rows (1 : Int) (nameS s))) (Prod.fst x_1) (Prod.fst (Prod.snd x_1)) (0 : Int) (Prod.snd (Prod.snd x_1))) ∧
 (1 : Nat) < (3 : Nat)) ∨
 ∃ (x_1 : Int × Int × Int × List (List UInt8)),
 some (TV.v (IV.str s)) = some (TV.v (IV.str s)) ∧
 some (TV.l (2 : Nat) (0 : Nat)) = some (TV.l (2 : Nat) (0 : Nat)) ∧
 some
 (TV.v
 (IV.vslice none ((0 : Nat) - (List.length x - Int.toNat (↑(List.length x) : Int)) * (1 : Nat)) (Int.toNat (↑(List.length x) : Int) - (1 : Nat)) (1 : Nat)
 (List.take ((Int.toNat (↑(List.length x) : Int) - (1 : Nat)) * (1 : Nat)) (List.drop (1 : Nat) (List.map IV.str x))))) =
 some (TV.v (IV.vslice none (0 : Nat) (List.length (Prod.snd (Prod.snd (Prod.snd x_1)))) (1 : Nat) (List.map IV.str (Prod.snd (Prod.snd (Prod.snd x_1)))))) ∧
 some (TV.v (IV.int IntKind.i64 (Prod.fst (lkp rows (1 : Int) (nameS s))))) = some (TV.v (IV.int IntKind.i64 (Prod.fst (lkp rows (1 : Int) (nameS s))))) ∧
 some (TV.v (IV.bool (fN (Row.fm (rowOf (Prod.fst (lkp rows (1 : Int) (nameS s)))))))) = some (TV.v (IV.bool (fN (Row.fm (rowOf (Prod.fst (lkp rows (1 : Int) (nameS s)))))))) ∧
 some (TV.v (IV.ptr (0 : Nat) (0 : Nat))) = some (TV.v (IV.ptr (0 : Nat) (0 : Nat))) ∧
 some
 (TV.v
 (IV.vslice none (1 : Nat) (3 : Nat) (2 : Nat)
 [IV.bool (fA (Row.fm (rowOf (Prod.fst (lkp rows (1 : Int) (nameS s)))))), IV.ptr (0 : Nat) (1 : Nat),
 IV.bool (fB (Row.fm (rowOf (Prod.fst (lkp rows (1 : Int) (nameS s)))))), IV.ptr (0 : Nat) (2 : Nat),
 IV.bool (fC (Row.fm (rowOf (Prod.fst (lkp rows (1 : Int) (nameS s)))))), IV.ptr (0 : Nat) (3 : Nat)])) =
 some
 (TV.v
 (IV.vslice none (1 : Nat) (3 : Nat) (2 : Nat)
 [IV.bool (fA (Row.fm (rowOf (Prod.fst (lkp rows (1 : Int) (nameS s)))))), IV.ptr (0 : Nat) (1 : Nat),
 IV.bool (fB (Row.fm (rowOf (Prod.fst (lkp rows (1 : Int) (nameS s)))))), IV.ptr (0 : Nat) (2 : Nat),
 IV.bool (fC (Row.fm (rowOf (Prod.fst (lkp rows (1 : Int) (nameS s)))))), IV.ptr (0 : Nat) (3 : Nat)])) ∧
 some (TV.v (IV.int IntKind.i64 (3 : Int))) = some (TV.v (IV.int IntKind.i64 (3 : Int))) ∧
 some (TV.v (IV.int IntKind.i64 (1 : Int))) = some (TV.v (IV.int IntKind.i64 (3 : Int))) ∧
 some [IV.int IntKind.i64 (0 : Int), IV.int IntKind.i64 (0 : Int), IV.int IntKind.i64 (0 : Int), IV.int IntKind.i64 (0 : Int), IV.int IntKind.i64 (0 : Int)] =
 some [IV.int IntKind.i64 (0 : Int), IV.int IntKind.i64 (0 : Int), IV.int IntKind.i64 (0 : Int), IV.int IntKind.i64 (0 : Int), IV.int IntKind.i64 (0 : Int)] ∧
 Heap.mk
 (PT.node PT.nil
 (some
 (IObj.cells
 [IV.int IntKind.i64 (Prod.fst (lkp rows (1 : Int) (nameS s))), IV.int IntKind.i64 v, IV.int IntKind.i64 (0 : Int), IV.int IntKind.i64 (0 : Int),
 IV.int IntKind.i64 (0 : Int)]))
 PT.nil)
 (1 : Nat) =
 Heap.mk
 (PT.node PT.nil
 (some
 (IObj.cells
 [IV.int IntKind.i64 (Prod.fst (lkp rows (1 : Int) (nameS s))), IV.int IntKind.i64 (Prod.fst x_1), IV.int IntKind.i64 (Prod.fst (Prod.snd x_1)),
 IV.int IntKind.i64 (Prod.fst (Prod.snd (Prod.snd x_1))), IV.int IntKind.i64 (0 : Int)]))
 PT.nil)
 (1 : Nat) ∧
 (Prod.snd (lkp rows (1 : Int) (nameS s)) = true ∧
 PC (3 : Nat) s (Prod.fst (lkp rows (1 : Int) (nameS s))) (Prod.fst x_1) (Prod.fst (Prod.snd x_1)) (Prod.fst (Prod.snd (Prod.snd x_1)))
 (Prod.snd (Prod.snd (Prod.snd x_1)))) ∧
 (0 : Nat) < (3 : Nat)))))))
 (needS (true && (decide ((1 : Int) ≤ (↑(List.length x) : Int)) && decide ((↑(List.length x) : Int) ≤ (↑(List.length x) : Int))))
 ((∃ (x_1 : List (List UInt8)),
 some (TV.v (IV.str s)) = some (TV.v (IV.str s)) ∧
 some (TV.l (2 : Nat) (0 : Nat)) = some (TV.l (2 : Nat) (0 : Nat)) ∧
 some
 (TV.v
 (IV.vslice none ((0 : Nat) - (List.length x - Int.toNat (↑(List.length x) : Int)) * (1 : Nat)) (Int.toNat (↑(List.length x) : Int) - (1 : Nat)) (1 : Nat)
 (List.take ((Int.toNat (↑(List.length x) : Int) - (1 : Nat)) * (1 : Nat)) (List.drop (1 : Nat) (List.map IV.str x))))) =
 some (TV.v (IV.vslice none (0 : Nat) (List.length x_1) (1 : Nat) (List.map IV.str x_1))) ∧
 some (TV.v (IV.int IntKind.i64 (Prod.fst (lkp rows (1 : Int) (nameS s))))) = some (TV.v (IV.int IntKind.i64 (Prod.fst (lkp rows (1 : Int) (nameS s))))) ∧
 some (TV.v (IV.bool (fN (Row.fm (rowOf (Prod.fst (lkp rows (1 : Int) (nameS s)))))))) = some (TV.v (IV.bool (fN (Row.fm (rowOf (Prod.fst (lkp rows (1 : Int) (nameS s)))))))) ∧
 some (TV.v (IV.ptr (0 : Nat) (0 : Nat))) = some (TV.v (IV.ptr (0 : Nat) (0 : Nat))) ∧
 some
 (TV.v
 (IV.vslice none (1 : Nat) (3 : Nat) (2 : Nat)
 [IV.bool (fA (Row.fm (rowOf (Prod.fst (lkp rows (1 : Int) (nameS s)))))), IV.ptr (0 : Nat) (1 : Nat), IV.bool (fB (Row.fm (rowOf (Prod.fst (lkp rows (1 : Int) (nameS s)))))),
 IV.ptr (0 : Nat) (2 : Nat), IV.bool (fC (Row.fm (rowOf (Prod.fst (lkp rows (1 : Int) (nameS s)))))), IV.ptr (0 : Nat) (3 : Nat)])) =
 some
 (TV.v
 (IV.vslice none (1 : Nat) (3 : Nat) (2 : Nat)
 [IV.bool (fA (Row.fm (rowOf (Prod.fst (lkp rows (1 : Int) (nameS s)))))), IV.ptr (0 : Nat) (1 : Nat), IV.bool (fB (Row.fm (rowOf (Prod.fst (lkp rows (1 : Int) (nameS s)))))),
 IV.ptr (0 : Nat) (2 : Nat), IV.bool (fC (Row.fm (rowOf (Prod.fst (lkp rows (1 : Int) (nameS s)))))), IV.ptr (0 : Nat) (3 : Nat)])) ∧
 some (TV.v (IV.int IntKind.i64 (3 : Int))) = some (TV.v (IV.int IntKind.i64 (3 : Int))) ∧
 some (TV.v (IV.int IntKind.i64 (1 : Int))) = some (TV.v (IV.int IntKind.i64 (0 : Int))) ∧
 some [IV.int IntKind.i64 (0 : Int), IV.int IntKind.i64 (0 : Int), IV.int IntKind.i64 (0 : Int), IV.int IntKind.i64 (0 : Int), IV.int IntKind.i64 (0 : Int)] =
 some [IV.int IntKind.i64 (0 : Int), IV.int IntKind.i64 (0 : Int), IV.int IntKind.i64 (0 : Int), IV.int IntKind.i64 (0 : Int), IV.int IntKind.i64 (0 : Int)] ∧
 Heap.mk
 (PT.node PT.nil
 (some
 (IObj.cells
 [IV.int IntKind.i64 (Prod.fst (lkp rows (1 : Int) (nameS s))), IV.int IntKind.i64 v, IV.int IntKind.i64 (0 : Int), IV.int IntKind.i64 (0 : Int),
 IV.int IntKind.i64 (0 : Int)]))
 PT.nil)
 (1 : Nat) =
 Heap.mk
 (PT.node PT.nil
 (some
 (IObj.cells
 [IV.int IntKind.i64 (Prod.fst (lkp rows (1 : Int) (nameS s))), IV.int IntKind.i64 (0 : Int), IV.int IntKind.i64 (0 : Int), IV.int IntKind.i64 (0 : Int),
 IV.int IntKind.i64 (0 : Int)]))
 PT.nil)
 (1 : Nat) ∧
 (Prod.snd (lkp rows (1 : Int) (nameS s)) = true ∧ PC (0 : Nat) s (Prod.fst (lkp rows (1 : Int) (nameS s))) (0 : Int) (0 : Int) (0 : Int) x_1) ∧ (3 : Nat) < (3 : Nat)) ∨
 (∃ (x_1 : Int × List (List UInt8)),
 some (TV.v (IV.str s)) = some (TV.v (IV.str s)) ∧
 some (TV.l (2 : Nat) (0 : Nat)) = some (TV.l (2 : Nat) (0 : Nat)) ∧
 some
 (TV.v
 (IV.vslice none ((0 : Nat) - (List.length x - Int.toNat (↑(List.length x) : Int)) * (1 : Nat)) (Int.toNat (↑(List.length x) : Int) - (1 : Nat)) (1 : Nat)
 (List.take ((Int.toNat (↑(List.length x) : Int) - (1 : Nat)) * (1 : Nat)) (List.drop (1 : Nat) (List.map IV.str x))))) =
 some (TV.v (IV.vslice none (0 : Nat) (List.length (Prod.snd x_1)) (1 : Nat) (List.map IV.str (Prod.snd x_1)))) ∧
 some (TV.v (IV.int IntKind.i64 (Prod.fst (lkp rows (1 : Int) (nameS s))))) = some (TV.v (IV.int IntKind.i64 (Prod.fst (lkp rows (1 : Int) (nameS s))))) ∧
 some (TV.v (IV.bool (fN (Row.fm (rowOf (Prod.fst (lkp rows (1 : Int) (nameS s)))))))) = some (TV.v (IV.bool (fN (Row.fm (rowOf (Prod.fst (lkp rows (1 : Int) (nameS s)))))))) ∧
 some (TV.v (IV.ptr (0 : Nat) (0 : Nat))) = some (TV.v (IV.ptr (0 : Nat) (0 : Nat))) ∧
 some
 (TV.v
 (IV.vslice none (1 : Nat) (3 : Nat) (2 : Nat)
 [IV.bool (fA (Row.fm (rowOf (Prod.fst (lkp rows (1 : Int) (nameS s)))))), IV.ptr (0 : Nat) (1 : Nat), IV.bool (fB (Row.fm (rowOf (Prod.fst (lkp rows (1 : Int) (nameS s)))))),
 IV.ptr (0 : Nat) (2 : Nat), IV.bool (fC (Row.fm (rowOf (Prod.fst (lkp rows (1 : Int) (nameS s)))))), IV.ptr (0 : Nat) (3 : Nat)])) =
 some
 (TV.v
 (IV.vslice none (1 : Nat) (3 : Nat) (2 : Nat)
 [IV.bool (fA (Row.fm (rowOf (Prod.fst (lkp rows (1 : Int) (nameS s)))))), IV.ptr (0 : Nat) (1 : Nat), IV.bool (fB (Row.fm (rowOf (Prod.fst (lkp rows (1 : Int) (nameS s)))))),
 IV.ptr (0 : Nat) (2 : Nat), IV.bool (fC (Row.fm (rowOf (Prod.fst (lkp rows (1 : Int) (nameS s)))))), IV.ptr (0 : Nat) (3 : Nat)])) ∧
 some (TV.v (IV.int IntKind.i64 (3 : Int))) = some (TV.v (IV.int IntKind.i64 (3 : Int))) ∧
 some (TV.v (IV.int IntKind.i64 (1 : Int))) = some (TV.v (IV.int IntKind.i64 (1 : Int))) ∧
 some [IV.int IntKind.i64 (0 : Int), IV.int IntKind.i64 (0 : Int), IV.int IntKind.i64 (0 : Int), IV.int IntKind.i64 (0 : Int), IV.int IntKind.i64 (0 : Int)] =
 some [IV.int IntKind.i64 (0 : Int), IV.int IntKind.i64 (0 : Int), IV.int IntKind.i64 (0 : Int), IV.int IntKind.i64 (0 : Int), IV.int IntKind.i64 (0 : Int)] ∧
 Heap.mk
 (PT.node PT.nil
 (some
 (IObj.cells
 [IV.int IntKind.i64 (Prod.fst (lkp rows (1 : Int) (nameS s))), IV.int IntKind.i64 v, IV.int IntKind.i64 (0 : Int), IV.int IntKind.i64 (0 : Int),
 IV.int IntKind.i64 (0 : Int)]))
 PT.nil)
 (1 : Nat) =
 Heap.mk
 (PT.node PT.nil
 (some
 (IObj.cells
 [IV.int IntKind.i64 (Prod.fst (lkp rows (1 : Int) (nameS s))), IV.int IntKind.i64 (Prod.fst x_1), IV.int IntKind.i64 (0 : Int), IV.int IntKind.i64 (0 : Int),
 IV.int IntKind.i64 (0 : Int)]))
 PT.nil)
 (1 : Nat) ∧
 (Prod.snd (lkp rows (1 : Int) (nameS s)) = true ∧ PC (1 : Nat) s (Prod.fst (lkp rows (1 : Int) (nameS s))) (Prod.fst x_1) (0 : Int) (0 : Int) (Prod.snd x_1)) ∧
 (2 : Nat) < (3 : Nat)) ∨
 (∃ (x_1 : Int × Int × List (List UInt8)),
 some (TV.v (IV.str s)) = some (TV.v (IV.str s)) ∧
 some (TV.l (2 : Nat) (0 : Nat)) = some (TV.l (2 : Nat) (0 : Nat)) ∧
 some
 (TV.v
 (IV.vslice none ((0 : Nat) - (List.length x - Int.toNat (↑(List.length x) : Int)) * (1 : Nat)) (Int.toNat (↑(List.length x) : Int) - (1 : Nat)) (1 : Nat)
 (List.take ((Int.toNat (↑(List.length x) : Int) - (1 : Nat)) * (1 : Nat)) (List.drop (1 : Nat) (List.map IV.str x))))) =
 some (TV.v (IV.vslice none (0 : Nat) (List.length (Prod.snd (Prod.snd x_1))) (1 : Nat) (List.map IV.str (Prod.snd (Prod.snd x_1))))) ∧
 some (TV.v (IV.int IntKind.i64 (Prod.fst (lkp rows (1 : Int) (nameS s))))) = some (TV.v (IV.int IntKind.i64 (Prod.fst (lkp rows (1 : Int) (nameS s))))) ∧
 some (TV.v (IV.bool (fN (Row.fm (rowOf (Prod.fst (lkp rows (1 : Int) (nameS s)))))))) = some (TV.v (IV.bool (fN (Row.fm (rowOf (Prod.fst (lkp rows (1 : Int) (nameS s)))))))) ∧
 some (TV.v (IV.ptr (0 : Nat) (0 : Nat))) = some (TV.v (IV.ptr (0 : Nat) (0 : Nat))) ∧
 some
 (TV.v
 (IV.vslice none (1 : Nat) (3 : Nat) (2 : Nat)
 [IV.bool (fA (Row.fm (rowOf (Prod.fst (lkp rows (1 : Int) (nameS s)))))), IV.ptr (0 : Nat) (1 : Nat), IV.bool (fB (Row.fm (rowOf (Prod.fst (lkp rows (1 : Int) (nameS s)))))),
 IV.ptr (0 : Nat) (2 : Nat), IV.bool (fC (Row.fm (rowOf (Prod.fst (lkp rows (1 : Int) (nameS s)))))), IV.ptr (0 : Nat) (3 : Nat)])) =
 some
 (TV.v
 (IV.vslice none (1 : Nat) (3 : Nat) (2 : Nat)
 [IV.bool (fA (Row.fm (rowOf (Prod.fst (lkp rows (1 : Int) (nameS s)))))), IV.ptr (0 : Nat) (1 : Nat), IV.bool (fB (Row.fm (rowOf (Prod.fst (lkp rows (1 : Int) (nameS s)))))),
 IV.ptr (0 : Nat) (2 : Nat), IV.bool (fC (Row.fm (rowOf (Prod.fst (lkp rows (1 : Int) (nameS s)))))), IV.ptr (0 : Nat) (3 : Nat)])) ∧
 some (TV.v (IV.int IntKind.i64 (3 : Int))) = some (TV.v (IV.int IntKind.i64 (3 : Int))) ∧
 some (TV.v (IV.int IntKind.i64 (1 : Int))) = some (TV.v (IV.int IntKind.i64 (2 : Int))) ∧
 some [IV.int IntKind.i64 (0 : Int), IV.int IntKind.i64 (0 : Int), IV.int IntKind.i64 (0 : Int), IV.int IntKind.i64 (0 : Int), IV.int IntKind.i64 (0 : Int)] =
 some [IV.int IntKind.i64 (0 : Int), IV.int IntKind.i64 (0 : Int), IV.int IntKind.i64 (0 : Int), IV.int IntKind.i64 (0 : Int), IV.int IntKind.i64 (0 : Int)] ∧
 Heap.mk
 (PT.node PT.nil
 (some
 (IObj.cells
 [IV.int IntKind.i64 (Prod.fst (lkp rows (1 : Int) (nameS s))), IV.int IntKind.i64 v, IV.int IntKind.i64 (0 : Int), IV.int IntKind.i64 (0 : Int),
 IV.int IntKind.i64 (0 : Int)]))
 PT.nil)
 (1 : Nat) =
 Heap.mk
 (PT.node PT.nil
 (some
 (IObj.cells
 [IV.int IntKind.i64 (Prod.fst (lkp rows (1 : Int) (nameS s))), IV.int IntKind.i64 (Prod.fst x_1), IV.int IntKind.i64 (Prod.fst (Prod.snd x_1)),
 IV.int IntKind.i64 (0 : Int), IV.int IntKind.i64 (0 : Int)]))
 PT.nil)
 (1 : Nat) ∧
 (Prod.snd (lkp rows (1 : Int) (nameS s)) = true ∧
 PC (2 : Nat) s (Prod.fst (lkp rows (1 : Int) (nameS s))) (Prod.fst x_1) (Prod.fst (Prod.snd x_1)) (0 : Int) (Prod.snd (Prod.snd x_1))) ∧
 (1 : Nat) < (3 : Nat)) ∨
 ∃ (x_1 : Int × Int × Int × List (List UInt8)),
 some (TV.v (IV.str s)) = some (TV.v (IV.str s)) ∧
 some (TV.l (2 : Nat) (0 : Nat)) = some (TV.l (2 : Nat) (0 : Nat)) ∧
 some
 (TV.v
 (IV.vslice none ((0 : Nat) - (List.length x - Int.toNat (↑(List.length x) : Int)) * (1 : Nat)) (Int.toNat (↑(List.length x) : Int) - (1 : Nat)) (1 : Nat)
 (List.take ((Int.toNat (↑(List.length x) : Int) - (1 : Nat)) * (1 : Nat)) (List.drop (1 : Nat) (List.map IV.str x))))) =
 some (TV.v (IV.vslice none (0 : Nat) (List.length (Prod.snd (Prod.snd (Prod.snd x_1)))) (1 : Nat) (List.map IV.str (Prod.snd (Prod.snd (Prod.snd x_1)))))) ∧
 some (TV.v (IV.int IntKind.i64 (Prod.fst (lkp rows (1 : Int) (nameS s))))) = some (TV.v (IV.int IntKind.i64 (Prod.fst (lkp rows (1 : Int) (nameS s))))) ∧
 some (TV.v (IV.bool (fN (Row.fm (rowOf (Prod.fst (lkp rows (1 : Int) (nameS s)))))))) = some (TV.v (IV.bool (fN (Row.fm (rowOf (Prod.fst (lkp rows (1 : Int) (nameS s)))))))) ∧
 some (TV.v (IV.ptr (0 : Nat) (0 : Nat))) = some (TV.v (IV.ptr (0 : Nat) (0 : Nat))) ∧
 some
 (TV.v
 (IV.vslice none (1 : Nat) (3 : Nat) (2 : Nat)
 [IV.bool (fA (Row.fm (rowOf (Prod.fst (lkp rows (1 : Int) (nameS s)))))), IV.ptr (0 : Nat) (1 : Nat), IV.bool (fB (Row.fm (rowOf (Prod.fst (lkp rows (1 : Int) (nameS s)))))),
 IV.ptr (0 : Nat) (2 : Nat), IV.bool (fC (Row.fm (rowOf (Prod.fst (lkp rows (1 : Int) (nameS s)))))), IV.ptr (0 : Nat) (3 : Nat)])) =
 some
 (TV.v
 (IV.vslice none (1 : Nat) (3 : Nat) (2 : Nat)
 [IV.bool (fA (Row.fm (rowOf (Prod.fst (lkp rows (1 : Int) (nameS s)))))), IV.ptr (0 : Nat) (1 : Nat), IV.bool (fB (Row.fm (rowOf (Prod.fst (lkp rows (1 : Int) (nameS s)))))),
 IV.ptr (0 : Nat) (2 : Nat), IV.bool (fC (Row.fm (rowOf (Prod.fst (lkp rows (1 : Int) (nameS s)))))), IV.ptr (0 : Nat) (3 : Nat)])) ∧
 some (TV.v (IV.int IntKind.i64 (3 : Int))) = some (TV.v (IV.int IntKind.i64 (3 : Int))) ∧
 some (TV.v (IV.int IntKind.i64 (1 : Int))) = some (TV.v (IV.int IntKind.i64 (3 : Int))) ∧
 some [IV.int IntKind.i64 (0 : Int), IV.int IntKind.i64 (0 : Int), IV.int IntKind.i64 (0 : Int), IV.int IntKind.i64 (0 : Int), IV.int IntKind.i64 (0 : Int)] =
 some [IV.int IntKind.i64 (0 : Int), IV.int IntKind.i64 (0 : Int), IV.int IntKind.i64 (0 : Int), IV.int IntKind.i64 (0 : Int), IV.int IntKind.i64 (0 : Int)] ∧
 Heap.mk
 (PT.node PT.nil
 (some
 (IObj.cells
 [IV.int IntKind.i64 (Prod.fst (lkp rows (1 : Int) (nameS s))), IV.int IntKind.i64 v, IV.int IntKind.i64 (0 : Int), IV.int IntKind.i64 (0 : Int),
 IV.int IntKind.i64 (0 : Int)]))
 PT.nil)
 (1 : Nat) =
 Heap.mk
 (PT.node PT.nil
 (some
 (IObj.cells
 [IV.int IntKind.i64 (Prod.fst (lkp rows (1 : Int) (nameS s))), IV.int IntKind.i64 (Prod.fst x_1), IV.int IntKind.i64 (Prod.fst (Prod.snd x_1)),
 IV.int IntKind.i64 (Prod.fst (Prod.snd (Prod.snd x_1))), IV.int IntKind.i64 (0 : Int)]))
 PT.nil)
 (1 : Nat) ∧
 (Prod.snd (lkp rows (1 : Int) (nameS s)) = true ∧
 PC (3 : Nat) s (Prod.fst (lkp rows (1 : Int) (nameS s))) (Prod.fst x_1) (Prod.fst (Prod.snd x_1)) (Prod.fst (Prod.snd (Prod.snd x_1))) (Prod.snd (Prod.snd (Prod.snd x_1)))) ∧
 (0 : Nat) < (3 : Nat))))))) ∧
 (∀ (x : Int × List (List UInt8)) (b : FF),
 Prod.snd (lkp rows (1 : Int) (nameS s)) = true ∧ PC (1 : Nat) s (Prod.fst (lkp rows (1 : Int) (nameS s))) (Prod.fst x) (0 : Int) (0 : Int) (Prod.snd x) →
 brS (!fB (Row.fm (rowOf (Prod.fst (lkp rows (1 : Int) (nameS s))))))
 ((∃ (x_1 : List (List UInt8)),
 some (TV.v (IV.str s)) = some (TV.v (IV.str s)) ∧
 some (TV.l (2 : Nat) (0 : Nat)) = some (TV.l (2 : Nat) (0 : Nat)) ∧
 some (TV.v (IV.vslice none (0 : Nat) (List.length (Prod.snd x)) (1 : Nat) (List.map IV.str (Prod.snd x)))) = some (TV.v (IV.vslice none (0 : Nat) (List.length x_1) (1 : Nat) (List.map IV.str x_1))) ∧
 some (TV.v (IV.int IntKind.i64 (Prod.fst (lkp rows (1 : Int) (nameS s))))) = some (TV.v (IV.int IntKind.i64 (Prod.fst (lkp rows (1 : Int) (nameS s))))) ∧
 some (TV.v (IV.bool (fN (Row.fm (rowOf (Prod.fst (lkp rows (1 : Int) (nameS s)))))))) = some (TV.v (IV.bool (fN (Row.fm (rowOf (Prod.fst (lkp rows (1 : Int) (nameS s)))))))) ∧
 some (TV.v (IV.ptr (0 : Nat) (0 : Nat))) = some (TV.v (IV.ptr (0 : Nat) (0 : Nat))) ∧
 some
 (TV.v
 (IV.vslice none (1 : Nat) (3 : Nat) (2 : Nat)
 [IV.bool (fA (Row.fm (rowOf (Prod.fst (lkp rows (1 : Int) (nameS s)))))), IV.ptr (0 : Nat) (1 : Nat), IV.bool (fB (Row.fm (rowOf (Prod.fst (lkp rows (1 : Int) (nameS s)))))),
 IV.ptr (0 : Nat) (2 : Nat), IV.bool (fC (Row.fm (rowOf (Prod.fst (lkp rows (1 : Int) (nameS s)))))), IV.ptr (0 : Nat) (3 : Nat)])) =
 some
 (TV.v
 (IV.vslice none (1 : Nat) (3 : Nat) (2 : Nat)
 [IV.bool (fA (Row.fm (rowOf (Prod.fst (lkp rows (1 : Int) (nameS s)))))), IV.ptr (0 : Nat) (1 : Nat), IV.bool (fB (Row.fm (rowOf (Prod.fst (lkp rows (1 : Int) (nameS s)))))),
 IV.ptr (0 : Nat) (2 : Nat), IV.bool (fC (Row.fm (rowOf (Prod.fst (lkp rows (1 : Int) (nameS s)))))), IV.ptr (0 : Nat) (3 : Nat)])) ∧
 some (TV.v (IV.int IntKind.i64 (3 : Int))) = some (TV.v (IV.int IntKind.i64 (3 : Int))) ∧
 some (TV.v (IV.int IntKind.i64 (2 : Int))) = some (TV.v (IV.int IntKind.i64 (0 : Int))) ∧
 some [IV.int IntKind.i64 (0 : Int), IV.int IntKind.i64 (0 : Int), IV.int IntKind.i64 (0 : Int), IV.int IntKind.i64 (0 : Int), IV.int IntKind.i64 (0 : Int)] =
 some [IV.int IntKind.i64 (0 : Int), IV.int IntKind.i64 (0 : Int), IV.int IntKind.i64 (0 : Int), IV.int IntKind.i64 (0 : Int), IV.int IntKind.i64 (0 : Int)] ∧
 Heap.mk
 (PT.node PT.nil
 (some
 (IObj.cells
 [IV.int IntKind.i64 (Prod.fst (lkp rows (1 : Int) (nameS s))), IV.int IntKind.i64 (Prod.fst x), IV.int IntKind.i64 (0 : Int), IV.int IntKind.i64 (0 : Int), IV.int IntKind.i64 (0 : Int)]))
 PT.nil)
 (1 : Nat) =
 Heap.mk
 (PT.node PT.nil
 (some
 (IObj.cells
 [IV.int IntKind.i64 (Prod.fst (lkp rows (1 : Int) (nameS s))), IV.int IntKind.i64 (0 : Int), IV.int IntKind.i64 (0 : Int), IV.int IntKind.i64 (0 : Int), IV.int IntKind.i64 (0 : Int)]))
 PT.nil)
 (1 : Nat) ∧
 (Prod.snd (lkp rows (1 : Int) (nameS s)) = true ∧ PC (0 : Nat) s (Prod.fst (lkp rows (1 : Int) (nameS s))) (0 : Int) (0 : Int) (0 : Int) x_1) ∧ (3 : Nat) < (2 : Nat)) ∨
 (∃ (x_1 : Int × List (List UInt8)),
 some (TV.v (IV.str s)) = some (TV.v (IV.str s)) ∧
 some (TV.l (2 : Nat) (0 : Nat)) = some (TV.l (2 : Nat) (0 : Nat)) ∧
 some (TV.v (IV.vslice none (0 : Nat) (List.length (Prod.snd x)) (1 : Nat) (List.map IV.str (Prod.snd x)))) =
 some (TV.v (IV.vslice none (0 : Nat) (List.length (Prod.snd x_1)) (1 : Nat) (List.map IV.str (Prod.snd x_1)))) ∧
 some (TV.v (IV.int IntKind.i64 (Prod.fst (lkp rows (1 : Int) (nameS s))))) = some (TV.v (IV.int IntKind.i64 (Prod.fst (lkp rows (1 : Int) (nameS s))))) ∧
 some (TV.v (IV.bool (fN (Row.fm (rowOf (Prod.fst (lkp rows (1 : Int) (nameS s)))))))) = some (TV.v (IV.bool (fN (Row.fm (rowOf (Prod.fst (lkp rows (1 : Int) (nameS s)))))))) ∧
 some (TV.v (IV.ptr (0 : Nat) (0 : Nat))) = some (TV.v (IV.ptr (0 : Nat) (0 : Nat))) ∧
 some
 (TV.v
 (IV.vslice none (1 : Nat) (3 : Nat) (2 : Nat)
 [IV.bool (fA (Row.fm (rowOf (Prod.fst (lkp rows (1 : Int) (nameS s)))))), IV.ptr (0 : Nat) (1 : Nat), IV.bool (fB (Row.fm (rowOf (Prod.fst (lkp rows (1 : Int) (nameS s)))))),
 IV.ptr (0 : Nat) (2 : Nat), IV.bool (fC (Row.fm (rowOf (Prod.fst (lkp rows (1 : Int) (nameS s)))))), IV.ptr (0 : Nat) (3 : Nat)])) =
 some
 (TV.v
 (IV.vslice none (1 : Nat) (3 : Nat) (2 : Nat)
 [IV.bool (fA (Row.fm (rowOf (Prod.fst (lkp rows (1 : Int) (nameS s)))))), IV.ptr (0 : Nat) (1 : Nat), IV.bool (fB (Row.fm (rowOf (Prod.fst (lkp rows (1 : Int) (nameS s)))))),
 IV.ptr (0 : Nat) (2 : Nat), IV.bool (fC (Row.fm (rowOf (Prod.fst (lkp rows (1 : Int) (nameS s)))))), IV.ptr (0 : Nat) (3 : Nat)])) ∧
 some (TV.v (IV.int IntKind.i64 (3 : Int))) = some (TV.v (IV.int IntKind.i64 (3 : Int))) ∧
 some (TV.v (IV.int IntKind.i64 (2 : Int))) = some (TV.v (IV.int IntKind.i64 (1 : Int))) ∧
 some [IV.int IntKind.i64 (0 : Int), IV.int IntKind.i64 (0 : Int), IV.int IntKind.i64 (0 : Int), IV.int IntKind.i64 (0 : Int), IV.int IntKind.i64 (0 : Int)] =
 some [IV.int IntKind.i64 (0 : Int), IV.int IntKind.i64 (0 : Int), IV.int IntKind.i64 (0 : Int), IV.int IntKind.i64 (0 : Int), IV.int IntKind.i64 (0 : Int)] ∧
 Heap.mk
 (PT.node PT.nil
 (some
 (IObj.cells
 [IV.int IntKind.i64 (Prod.fst (lkp rows (1 : Int) (nameS s))), IV.int IntKind.i64 (Prod.fst x), IV.int IntKind.i64 (0 : Int), IV.int IntKind.i64 (0 : Int),
 IV.int IntKind.i64 (0 : Int)]))
 PT.nil)
 (1 : Nat) =
 Heap.mk
 (PT.node PT.nil
 (some
 (IObj.cells
 [IV.int IntKind.i64 (Prod.fst (lkp rows (1 : Int) (nameS s))), IV.int IntKind.i64 (Prod.fst x_1), IV.int IntKind.i64 (0 : Int), IV.int IntKind.i64 (0 : Int),
 IV.int IntKind.i64 (0 : Int)]))
 PT.nil)
 (1 : Nat) ∧
 (Prod.snd (lkp rows (1 : Int) (nameS s)) = true ∧ PC (1 : Nat) s (Prod.fst (lkp rows (1 : Int) (nameS s))) (Prod.fst x_1) (0 : Int) (0 : Int) (Prod.snd x_1)) ∧ (2 : Nat) < (2 : Nat)) ∨
 (∃ (x_1 : Int × Int × List (List UInt8)),
 some (TV.v (IV.str s)) = some (TV.v (IV.str s)) ∧
 some (TV.l (2 : Nat) (0 : Nat)) = some (TV.l (2 : Nat) (0 : Nat)) ∧
 some (TV.v (IV.vslice none (0 : Nat) (List.length (Prod.snd x)) (1 : Nat) (List.map IV.str (Prod.snd x)))) =
 some (TV.v (IV.vslice none (0 : Nat) (List.length (Prod.snd (Prod.snd x_1))) (1 : Nat) (List.map IV.str (Prod.snd (Prod.snd x_1))))) ∧
 some (TV.v (IV.int IntKind.i64 (Prod.fst (lkp rows (1 : Int) (nameS s))))) = some (TV.v (IV.int IntKind.i64 (Prod.fst (lkp rows (1 : Int) (nameS s))))) ∧
 some (TV.v (IV.bool (fN (Row.fm (rowOf (Prod.fst (lkp rows (1 : Int) (nameS s)))))))) = some (TV.v (IV.bool (fN (Row.fm (rowOf (Prod.fst (lkp rows (1 : Int) (nameS s)))))))) ∧
 some (TV.v (IV.ptr (0 : Nat) (0 : Nat))) = some (TV.v (IV.ptr (0 : Nat) (0 : Nat))) ∧
 some
 (TV.v
 (IV.vslice none (1 : Nat) (3 : Nat) (2 : Nat)
 [IV.bool (fA (Row.fm (rowOf (Prod.fst (lkp rows (1 : Int) (nameS s)))))), IV.ptr (0 : Nat) (1 : Nat), IV.bool (fB (Row.fm (rowOf (Prod.fst (lkp rows (1 : Int) (nameS s)))))),
 IV.ptr (0 : Nat) (2 : Nat), IV.bool (fC (Row.fm (rowOf (Prod.fst (lkp rows (1 : Int) (nameS s)))))), IV.ptr (0 : Nat) (3 : Nat)])) =
 some
 (TV.v
 (IV.vslice none (1 : Nat) (3 : Nat) (2 : Nat)
 [IV.bool (fA (Row.fm (rowOf (Prod.fst (lkp rows (1 : Int) (nameS s)))))), IV.ptr (0 : Nat) (1 : Nat), IV.bool (fB (Row.fm (rowOf (Prod.fst (lkp rows (1 : Int) (nameS s)))))),
 IV.ptr (0 : Nat) (2 : Nat), IV.bool (fC (Row.fm (rowOf (Prod.fst (lkp rows (1 : Int) (nameS s)))))), IV.ptr (0 : Nat) (3 : Nat)])) ∧
 some (TV.v (IV.int IntKind.i64 (3 : Int))) = some (TV.v (IV.int IntKind.i64 (3 : Int))) ∧
 some (TV.v (IV.int IntKind.i64 (2 : Int))) = some (TV.v (IV.int IntKind.i64 (2 : Int))) ∧
 some [IV.int IntKind.i64 (0 : Int), IV.int IntKind.i64 (0 : Int), IV.int IntKind.i64 (0 : Int), IV.int IntKind.i64 (0 : Int), IV.int IntKind.i64 (0 : Int)] =
 some [IV.int IntKind.i64 (0 : Int), IV.int IntKind.i64 (0 : Int), IV.int IntKind.i64 (0 : Int), IV.int IntKind.i64 (0 : Int), IV.int IntKind.i64 (0 : Int)] ∧
 Heap.mk
 (PT.node PT.nil
 (some
 (IObj.cells
 [IV.int IntKind.i64 (Prod.fst (lkp rows (1 : Int) (nameS s))), IV.int IntKind.i64 (Prod.fst x), IV.int IntKind.i64 (0 : Int), IV.int IntKind.i64 (0 : Int),
 IV.int IntKind.i64 (0 : Int)]))
 PT.nil)
 (1 : Nat) =
 Heap.mk
 (PT.node PT.nil
 (some
 (IObj.cells
 [IV.int IntKind.i64 (Prod.fst (lkp rows (1 : Int) (nameS s))), IV.int IntKind.i64 (Prod.fst x_1), IV.int IntKind.i64 (Prod.fst (Prod.snd x_1)), IV.int IntKind.i64 (0 : Int),
 IV.int IntKind.i64 (0 : Int)]))
 PT.nil)
 (1 : Nat) ∧
 (Prod.snd (lkp rows (1 : Int) (nameS s)) = true ∧ PC (2 : Nat) s (Prod.fst (lkp rows (1 : Int) (nameS s))) (Prod.fst x_1) (Prod.fst (Prod.snd x_1)) (0 : Int) (Prod.snd (Prod.snd x_1))) ∧
 (1 : Nat) < (2 : Nat)) ∨
 ∃ (x_1 : Int × Int × Int × List (List UInt8)),
 some (TV.v (IV.str s)) = some (TV.v (IV.str s)) ∧
 some (TV.l (2 : Nat) (0 : Nat)) = some (TV.l (2 : Nat) (0 : Nat)) ∧
 some (TV.v (IV.vslice none (0 : Nat) (List.length (Prod.snd x)) (1 : Nat) (List.map IV.str (Prod.snd x)))) =
 some (TV.v (IV.vslice none (0 : Nat) (List.length (Prod.snd (Prod.snd (Prod.snd x_1)))) (1 : Nat) (List.map IV.str (Prod.snd (Prod.snd (Prod.snd x_1)))))) ∧
 some (TV.v (IV.int IntKind.i64 (Prod.fst (lkp rows (1 : Int) (nameS s))))) = some (TV.v (IV.int IntKind.i64 (Prod.fst (lkp rows (1 : Int) (nameS s))))) ∧
 some (TV.v (IV.bool (fN (Row.fm (rowOf (Prod.fst (lkp rows (1 : Int) (nameS s)))))))) = some (TV.v (IV.bool (fN (Row.fm (rowOf (Prod.fst (lkp rows (1 : Int) (nameS s)))))))) ∧
 some (TV.v (IV.ptr (0 : Nat) (0 : Nat))) = some (TV.v (IV.ptr (0 : Nat) (0 : Nat))) ∧
 some
 (TV.v
 (IV.vslice none (1 : Nat) (3 : Nat) (2 : Nat)
 [IV.bool (fA (Row.fm (rowOf (Prod.fst (lkp rows (1 : Int) (nameS s)))))), IV.ptr (0 : Nat) (1 : Nat), IV.bool (fB (Row.fm (rowOf (Prod.fst (lkp rows (1 : Int) (nameS s)))))),
 IV.ptr (0 : Nat) (2 : Nat), IV.bool (fC (Row.fm (rowOf (Prod.fst (lkp rows (1 : Int) (nameS s)))))), IV.ptr (0 : Nat) (3 : Nat)])) =
 some
 (TV.v
 (IV.vslice none (1 : Nat) (3 : Nat) (2 : Nat)
 [IV.bool (fA (Row.fm (rowOf (Prod.fst (lkp rows (1 : Int) (nameS s)))))), IV.ptr (0 : Nat) (1 : Nat), IV.bool (fB (Row.fm (rowOf (Prod.fst (lkp rows (1 : Int) (nameS s)))))),
 IV.ptr (0 : Nat) (2 : Nat), IV.bool (fC (Row.fm (rowOf (Prod.fst (lkp rows (1 : Int) (nameS s)))))), IV.ptr (0 : Nat) (3 : Nat)])) ∧
 some (TV.v (IV.int IntKind.i64 (3 : Int))) = some (TV.v (IV.int IntKind.i64 (3 : Int))) ∧
 some (TV.v (IV.int IntKind.i64 (2 : Int))) = some (TV.v (IV.int IntKind.i64 (3 : Int))) ∧
 some [IV.int IntKind.i64 (0 : Int), IV.int IntKind.i64 (0 : Int), IV.int IntKind.i64 (0 : Int), IV.int IntKind.i64 (0 : Int), IV.int IntKind.i64 (0 : Int)] =
 some [IV.int IntKind.i64 (0 : Int), IV.int IntKind.i64 (0 : Int), IV.int IntKind.i64 (0 : Int), IV.int IntKind.i64 (0 : Int), IV.int IntKind.i64 (0 : Int)] ∧
 Heap.mk
 (PT.node PT.nil
 (some
 (IObj.cells
 [IV.int IntKind.i64 (Prod.fst (lkp rows (1 : Int) (nameS s))), IV.int IntKind.i64 (Prod.fst x), IV.int IntKind.i64 (0 : Int), IV.int IntKind.i64 (0 : Int),
 IV.int IntKind.i64 (0 : Int)]))
 PT.nil)
 (1 : Nat) =
 Heap.mk
 (PT.node PT.nil
 (some
 (IObj.cells
 [IV.int IntKind.i64 (Prod.fst (lkp rows (1 : Int) (nameS s))), IV.int IntKind.i64 (Prod.fst x_1), IV.int IntKind.i64 (Prod.fst (Prod.snd x_1)),
 IV.int IntKind.i64 (Prod.fst (Prod.snd (Prod.snd x_1))), IV.int IntKind.i64 (0 : Int)]))
 PT.nil)
 (1 : Nat) ∧
 (Prod.snd (lkp rows (1 : Int) (nameS s)) = true ∧
 PC (3 : Nat) s (Prod.fst (lkp rows (1 : Int) (nameS s))) (Prod.fst x_1) (Prod.fst (Prod.snd x_1)) (Prod.fst (Prod.snd (Prod.snd x_1))) (Prod.snd (Prod.snd (Prod.snd x_1)))) ∧
 (0 : Nat) < (2 : Nat))
 (brS ((↑(List.length (Prod.snd x)) : Int) == (0 : Int))
 (Q (IV.tuple [IV.agg [IV.int IntKind.i64 (0 : Int), IV.int IntKind.i64 (0 : Int), IV.int IntKind.i64 (0 : Int), IV.int IntKind.i64 (0 : Int), IV.int IntKind.i64 (0 : Int)], IV.bool false]) h)
 (needS (true && decide ((0 : Int) < (↑(List.length (Prod.snd x)) : Int)))
 (ldSS (List.map IV.str (Prod.snd x)) (0 : Nat) fun (s2 : List UInt8) =>
 ∀ (v : Int),
 (-9223372036854775808 : Int) ≤ v ∧ v ≤ (9223372036854775807 : Int) →
 (∀ (n : Int), (0 : Int) ≤ n → n ≤ (7 : Int) → s2 = (114 : UInt8) :: txt n → v = n) →
 brS (Prod.fst (lkp rows (1 : Int) (nameS s)) == (6 : Int))
 (needS (true && decide ((0 : Int) < (↑(List.length (Prod.snd x)) : Int)))
 (ldSS (List.map IV.str (Prod.snd x)) (0 : Nat) fun (s3 : List UInt8) =>
 ∀ (v : Int) (b : Bool),
 (-9223372036854775808 : Int) ≤ v ∧ v ≤ (9223372036854775807 : Int) →
 (∀ (n : Int), (-9223372036854775808 : Int) ≤ n ∧ n ≤ (9223372036854775807 : Int) → s3 = txt n → v = n ∧ b = true) →
 brS (!b) (Q (IV.tuple [IV.agg [IV.int IntKind.i64 (0 : Int), IV.int IntKind.i64 (0 : Int), IV.int IntKind.i64 (0 : Int), IV.int IntKind.i64 (0 : Int), IV.int IntKind.i64 (0 : Int)], IV.bool false]) h)
 (brS (decide (v < (0 : Int)))
 (Q (IV.tuple [IV.agg [IV.int IntKind.i64 (0 : Int), IV.int IntKind.i64 (0 : Int), IV.int IntKind.i64 (0 : Int), IV.int IntKind.i64 (0 : Int), IV.int IntKind.i64 (0 : Int)], IV.bool false]) h)
 (brS (decide (v > (6 : Int)))
 (Q (IV.tuple [IV.agg [IV.int IntKind.i64 (0 : Int), IV.int IntKind.i64 (0 : Int), IV.int IntKind.i64 (0 : Int), IV.int IntKind.i64 (0 : Int), IV.int IntKind.i64 (0 : Int)], IV.bool false]) h)
 (needS (true && (decide ((1 : Int) ≤ (↑(List.length (Prod.snd x)) : Int)) && decide ((↑(List.length (Prod.snd x)) : Int) ≤ (↑(List.length (Prod.snd x)) : Int))))
 ((∃ (x_1 : List (List UInt8)),
 some (TV.v (IV.str s)) = some (TV.v (IV.str s)) ∧
 some (TV.l (2 : Nat) (0 : Nat)) = some (TV.l (2 : Nat) (0 : Nat)) ∧
 some
 (TV.v
 (IV.vslice none ((0 : Nat) - (List.length (Prod.snd x) - Int.toNat (↑(List.length (Prod.snd x)) : Int)) * (1 : Nat)) (Int.toNat (↑(List.length (Prod.snd x)) : Int) - (1 : Nat))
 (1 : Nat) (List.take ((Int.toNat (↑(List.length (Prod.snd x)) : Int) - (1 : Nat)) * (1 : Nat)) (List.drop (1 : Nat) (List.map IV.str (Prod.snd x)))))) =
 some (TV.v (IV.vslice none (0 : Nat) (List.length x_1) (1 : Nat) (List.map IV.str x_1))) ∧
 some (TV.v (IV.int IntKind.i64 (Prod.fst (lkp rows (1 : Int) (nameS s))))) = some (TV.v (IV.int IntKind.i64 (Prod.fst (lkp rows (1 : Int) (nameS s))))) ∧
 some (TV.v (IV.bool (fN (Row.fm (rowOf (Prod.fst (lkp rows (1 : Int) (nameS s)))))))) = some (TV.v (IV.bool (fN (Row.fm (rowOf (Prod.fst (lkp rows (1 : Int) (nameS s)))))))) ∧
 some (TV.v (IV.ptr (0 : Nat) (0 : Nat))) = some (TV.v (IV.ptr (0 : Nat) (0 : Nat))) ∧
 some
 (TV.v
 (IV.vslice none (1 : Nat) (3 : Nat) (2 : Nat)
 [IV.bool (fA (Row.fm (rowOf (Prod.fst (lkp rows (1 : Int) (nameS s)))))), IV.ptr (0 : Nat) (1 : Nat),
 IV.bool (fB (Row.fm (rowOf (Prod.fst (lkp rows (1 : Int) (nameS s)))))), IV.ptr (0 : Nat) (2 : Nat),
 IV.bool (fC (Row.fm (rowOf (Prod.fst (lkp rows (1 : Int) (nameS s)))))), IV.ptr (0 : Nat) (3 : Nat)])) =
 some
 (TV.v
 (IV.vslice none (1 : Nat) (3 : Nat) (2 : Nat)
 [IV.bool (fA (Row.fm (rowOf (Prod.fst (lkp rows (1 : Int) (nameS s)))))), IV.ptr (0 : Nat) (1 : Nat),
 IV.bool (fB (Row.fm (rowOf (Prod.fst (lkp rows (1 : Int) (nameS s)))))), IV.ptr (0 : Nat) (2 : Nat),
 IV.bool (fC (Row.fm (rowOf (Prod.fst (lkp rows (1 : Int) (nameS s)))))), IV.ptr (0 : Nat) (3 : Nat)])) ∧
 some (TV.v (IV.int IntKind.i64 (3 : Int))) = some (TV.v (IV.int IntKind.i64 (3 : Int))) ∧
 some (TV.v (IV.int IntKind.i64 (2 : Int))) = some (TV.v (IV.int IntKind.i64 (0 : Int))) ∧
 some [IV.int IntKind.i64 (0 : Int), IV.int IntKind.i64 (0 : Int), IV.int IntKind.i64 (0 : Int), IV.int IntKind.i64 (0 : Int), IV.int IntKind.i64 (0 : Int)] =
 some [IV.int IntKind.i64 (0 : Int), IV.int IntKind.i64 (0 : Int), IV.int IntKind.i64 (0 : Int), IV.int IntKind.i64 (0 : Int), IV.int IntKind.i64 (0 : Int)] ∧
 Heap.mk
 (PT.node PT.nil
 (some
 (IObj.cells
 [IV.int IntKind.i64 (Prod.fst (lkp rows (1 : Int) (nameS s))), IV.int IntKind.i64 (Prod.fst x), IV.int IntKind.i64 v, IV.int IntKind.i64 (0 : Int),
 IV.int IntKind.i64 (0 : Int)]))
 PT.nil)
 (1 : Nat) =
 Heap.mk
 (PT.node PT.nil
 (some
 (IObj.cells
 [IV.int IntKind.i64 (Prod.fst (lkp rows (1 : Int) (nameS s))), IV.int IntKind.i64 (0 : Int), IV.int IntKind.i64 (0 : Int), IV.int IntKind.i64 (0 : Int),
 IV.int IntKind.i64 (0 : Int)]))
 PT.nil)
 (1 : Nat) ∧
 (Prod.snd (lkp rows (1 : Int) (nameS s)) = true ∧ PC (0 : Nat) s (Prod.fst (lkp rows (1 : Int) (nameS s))) (0 : Int) (0 : Int) (0 : Int) x_1) ∧
 (3 : Nat) < (2 : Nat)) ∨
 (∃ (x_1 : Int × List (List UInt8)),
 some (TV.v (IV.str s)) = some (TV.v (IV.str s)) ∧
 some (TV.l (2 : Nat) (0 : Nat)) = some (TV.l (2 : Nat) (0 : Nat)) ∧
 some
 (TV.v
 (IV.vslice none ((0 : Nat) - (List.length (Prod.snd x) - Int.toNat (↑(List.length (Prod.snd x)) : Int)) * (1 : Nat))
 (Int.toNat (↑(List.length (Prod.snd x)) : Int) - (1 : Nat)) (1 : Nat)
 (List.take ((Int.toNat (↑(List.length (Prod.snd x)) : Int) - (1 : Nat)) * (1 : Nat)) (List.drop (1 : Nat) (List.map IV.str (Prod.snd x)))))) =
 some (TV.v (IV.vslice none (0 : Nat) (List.length (Prod.snd x_1)) (1 : Nat) (List.map IV.str (Prod.snd x_1)))) ∧
 some (TV.v (IV.int IntKind.i64 (Prod.fst (lkp rows (1 : Int) (nameS s))))) = some (TV.v (IV.int IntKind.i64 (Prod.fst (lkp rows (1 : Int) (nameS s))))) ∧
 some (TV.v (IV.bool (fN (Row.fm (rowOf (Prod.fst (lkp rows (1 : Int) (nameS s)))))))) = some (TV.v (IV.bool (fN (Row.fm (rowOf (Prod.fst (lkp rows (1 : Int) (nameS s)))))))) ∧
 some (TV.v (IV.ptr (0 : Nat) (0 : Nat))) = some (TV.v (IV.ptr (0 : Nat) (0 : Nat))) ∧
 some
 (TV.v
 (IV.vslice none (1 : Nat) (3 : Nat) (2 : Nat)
 [IV.bool (fA (Row.fm (rowOf (Prod.fst (lkp rows (1 : Int) (nameS s)))))), IV.ptr (0 : Nat) (1 : Nat),
 IV.bool (fB (Row.fm (rowOf (Prod.fst (lkp rows (1 : Int) (nameS s)))))), IV.ptr (0 : Nat) (2 : Nat),
 IV.bool (fC (Row.fm (rowOf (Prod.fst (lkp rows (1 : Int) (nameS s)))))), IV.ptr (0 : Nat) (3 : Nat)])) =
 some
 (TV.v
 (IV.vslice none (1 : Nat) (3 : Nat) (2 : Nat)
 [IV.bool (fA (Row.fm (rowOf (Prod.fst (lkp rows (1 : Int) (nameS s)))))), IV.ptr (0 : Nat) (1 : Nat),
 IV.bool (fB (Row.fm (rowOf (Prod.fst (lkp rows (1 : Int) (nameS s)))))), IV.ptr (0 : Nat) (2 : Nat),
 IV.bool (fC (Row.fm (rowOf (Prod.fst (lkp rows (1 : Int) (nameS s)))))), IV.ptr (0 : Nat) (3 : Nat)])) ∧
 some (TV.v (IV.int IntKind.i64 (3 : Int))) = some (TV.v (IV.int IntKind.i64 (3 : Int))) ∧
 some (TV.v (IV.int IntKind.i64 (2 : Int))) = some (TV.v (IV.int IntKind.i64 (1 : Int))) ∧
 some [IV.int IntKind.i64 (0 : Int), IV.int IntKind.i64 (0 : Int), IV.int IntKind.i64 (0 : Int), IV.int IntKind.i64 (0 : Int), IV.int IntKind.i64 (0 : Int)] =
 some [IV.int IntKind.i64 (0 : Int), IV.int IntKind.i64 (0 : Int), IV.int IntKind.i64 (0 : Int), IV.int IntKind.i64 (0 : Int), IV.int IntKind.i64 (0 : Int)] ∧
 Heap.mk
 (PT.node PT.nil
 (some
 (IObj.cells
 [IV.int IntKind.i64 (Prod.fst (lkp rows (1 : Int) (nameS s))), IV.int IntKind.i64 (Prod.fst x), IV.int IntKind.i64 v, IV.int IntKind.i64 (0 : Int),
 IV.int IntKind.i64 (0 : Int)]))
 PT.nil)
 (1 : Nat) =
 Heap.mk
 (PT.node PT.nil
 (some
 (IObj.cells
 [IV.int IntKind.i64 (Prod.fst (lkp rows (1 : Int) (nameS s))), IV.int IntKind.i64 (Prod.fst x_1), IV.int IntKind.i64 (0 : Int),
 IV.int IntKind.i64 (0 : Int), IV.int IntKind.i64 (0 : Int)]))
 PT.nil)
 (1 : Nat) ∧
 (Prod.snd (lkp rows (1 : Int) (nameS s)) = true ∧ PC (1 : Nat) s (Prod.fst (lkp rows (1 : Int) (nameS s))) (Prod.fst x_1) (0 : Int) (0 : Int) (Prod.snd x_1)) ∧
 (2 : Nat) < (2 : Nat)) ∨
 (∃ (x_1 : Int × Int × List (List UInt8)),
 some (TV.v (IV.str s)) = some (TV.v (IV.str s)) ∧
 some (TV.l (2 : Nat) (0 : Nat)) = some (TV.l (2 : Nat) (0 : Nat)) ∧
 some
 (TV.v
 (IV.vslice none ((0 : Nat) - (List.length (Prod.snd x) - Int.toNat (↑(List.length (Prod.snd x)) : Int)) * (1 : Nat))
 (Int.toNat (↑(List.length (Prod.snd x)) : Int) - (1 : Nat)) (1 : Nat)
 (List.take ((Int.toNat (↑(List.length (Prod.snd x)) : Int) - (1 : Nat)) * (1 : Nat)) (List.drop (1 : Nat) (List.map IV.str (Prod.snd x)))))) =
 some (TV.v (IV.vslice none (0 : Nat) (List.length (Prod.snd (Prod.snd x_1))) (1 : Nat) (List.map IV.str (Prod.snd (Prod.snd x_1))))) ∧
 some (TV.v (IV.int IntKind.i64 (Prod.fst (lkp rows (1 : Int) (nameS s))))) = some (TV.v (IV.int IntKind.i64 (Prod.fst (lkp rows (1 : Int) (nameS s))))) ∧
 some (TV.v (IV.bool (fN (Row.fm (rowOf (Prod.fst (lkp rows (1 : Int) (nameS s)))))))) = some (TV.v (IV.bool (fN (Row.fm (rowOf (Prod.fst (lkp rows (1 : Int) (nameS s)))))))) ∧
 some (TV.v (IV.ptr (0 : Nat) (0 : Nat))) = some (TV.v (IV.ptr (0 : Nat) (0 : Nat))) ∧
 some
 (TV.v
 (IV.vslice none (1 : Nat) (3 : Nat) (2 : Nat)
 [IV.bool (fA (Row.fm (rowOf (Prod.fst (lkp rows (1 : Int) (nameS s)))))), IV.ptr (0 : Nat) (1 : Nat),
 IV.bool (fB (Row.fm (rowOf (Prod.fst (lkp rows (1 : Int) (nameS s)))))), IV.ptr (0 : Nat) (2 : Nat),
 IV.bool (fC (Row.fm (rowOf (Prod.fst (lkp rows (1 : Int) (nameS s)))))), IV.ptr (0 : Nat) (3 : Nat)])) =
 some
 (TV.v
 (IV.vslice none (1 : Nat) (3 : Nat) (2 : Nat)
 [IV.bool (fA (Row.fm (rowOf (Prod.fst (lkp rows (1 : Int) (nameS s)))))), IV.ptr (0 : Nat) (1 : Nat),
 IV.bool (fB (Row.fm (rowOf (Prod.fst (lkp rows (1 : Int) (nameS s)))))), IV.ptr (0 : Nat) (2 : Nat),
 IV.bool (fC (Row.fm (rowOf (Prod.fst (lkp rows (1 : Int) (nameS s)))))), IV.ptr (0 : Nat) (3 : Nat)])) ∧
 some (TV.v (IV.int IntKind.i64 (3 : Int))) = some (TV.v (IV.int IntKind.i64 (3 : Int))) ∧
 some (TV.v (IV.int IntKind.i64 (2 : Int))) = some (TV.v (IV.int IntKind.i64 (2 : Int))) ∧
 some [IV.int IntKind.i64 (0 : Int), IV.int IntKind.i64 (0 : Int), IV.int IntKind.i64 (0 : Int), IV.int IntKind.i64 (0 : Int), IV.int IntKind.i64 (0 : Int)] =
 some [IV.int IntKind.i64 (0 : Int), IV.int IntKind.i64 (0 : Int), IV.int IntKind.i64 (0 : Int), IV.int IntKind.i64 (0 : Int), IV.int IntKind.i64 (0 : Int)] ∧
 Heap.mk
 (PT.node PT.nil
 (some
 (IObj.cells
 [IV.int IntKind.i64 (Prod.fst (lkp rows (1 : Int) (nameS s))), IV.int IntKind.i64 (Prod.fst x), IV.int IntKind.i64 v, IV.int IntKind.i64 (0 : Int),
 IV.int IntKind.i64 (0 : Int)]))
 PT.nil)
 (1 : Nat) =
 Heap.mk
 (PT.node PT.nil
 (some
 (IObj.cells
 [IV.int IntKind.i64 (Prod.fst (lkp rows (1 : Int) (nameS s))), IV.int IntKind.i64 (Prod.fst x_1), IV.int IntKind.i64 (Prod.fst (Prod.snd x_1)),
 IV.int IntKind.i64 (0 : Int), IV.int IntKind.i64 (0 : Int)]))
 PT.nil)
 (1 : Nat) ∧
 (Prod.snd (lkp rows (1 : Int) (nameS s)) = true ∧
 PC (2 : Nat) s (Prod.fst (lkp rows (1 : Int) (nameS s))) (Prod.fst x_1) (Prod.fst (Prod.snd x_1)) (0 : Int) (Prod.snd (Prod.snd x_1))) ∧
 (1 : Nat) < (2 : Nat)) ∨
 ∃ (x_1 : Int × Int × Int × List (List UInt8)),
 some (TV.v (IV.str s)) = some (TV.v (IV.str s)) ∧
 some (TV.l (2 : Nat) (0 : Nat)) = some (TV.l (2 : Nat) (0 : Nat)) ∧
 some
 (TV.v
 (IV.vslice none ((0 : Nat) - (List.length (Prod.snd x) - Int.toNat (↑(List.length (Prod.snd x)) : Int)) * (1 : Nat))
 (Int.toNat (↑(List.length (Prod.snd x)) : Int) - (1 : Nat)) (1 : Nat)
 (List.take ((Int.toNat (↑(List.length (Prod.snd x)) : Int) - (1 : Nat)) * (1 : Nat)) (List.drop (1 : Nat) (List.map IV.str (Prod.snd x)))))) =
 some (TV.v (IV.vslice none (0 : Nat) (List.length (Prod.snd (Prod.snd (Prod.snd x_1)))) (1 : Nat) (List.map IV.str (Prod.snd (Prod.snd (Prod.snd x_1)))))) ∧
 some (TV.v (IV.int IntKind.i64 (Prod.fst (lkp rows (1 : Int) (nameS s))))) = some (TV.v (IV.int IntKind.i64 (Prod.fst (lkp rows (1 : Int) (nameS s))))) ∧
 some (TV.v (IV.bool (fN (Row.fm (rowOf (Prod.fst (lkp rows (1 : Int) (nameS s)))))))) = some (TV.v (IV.bool (fN (Row.fm (rowOf (Prod.fst (lkp rows (1 : Int) (nameS s)))))))) ∧
 some (TV.v (IV.ptr (0 : Nat) (0 : Nat))) = some (TV.v (IV.ptr (0 : Nat) (0 : Nat))) ∧
 some
 (TV.v
 (IV.vslice none (1 : Nat) (3 : Nat) (2 : Nat)
 [IV.bool (fA (Row.fm (rowOf (Prod.fst (lkp rows (1 : Int) (nameS s)))))), IV.ptr (0 : Nat) (1 : Nat),
 IV.bool (fB (Row.fm (rowOf (Prod.fst (lkp rows (1 : Int) (nameS s)))))), IV.ptr (0 : Nat) (2 : Nat),
 IV.bool (fC (Row.fm (rowOf (Prod.fst (lkp rows (1 : Int) (nameS s)))))), IV.ptr (0 : Nat) (3 : Nat)])) =
 some
 (TV.v
 (IV.vslice none (1 : Nat) (3 : Nat) (2 : Nat)
 [IV.bool (fA (Row.fm (rowOf (Prod.fst (lkp rows (1 : Int) (nameS s)))))), IV.ptr (0 : Nat) (1 : Nat),
 IV.bool (fB (Row.fm (rowOf (Prod.fst (lkp rows (1 : Int) (nameS s)))))), IV.ptr (0 : Nat) (2 : Nat),
 IV.bool (fC (Row.fm (rowOf (Prod.fst (lkp rows (1 : Int) (nameS s)))))), IV.ptr (0 : Nat) (3 : Nat)])) ∧
 some (TV.v (IV.int IntKind.i64 (3 : Int))) = some (TV.v (IV.int IntKind.i64 (3 : Int))) ∧
 some (TV.v (IV.int IntKind.i64 (2 : Int))) = some (TV.v (IV.int IntKind.i64 (3 : Int))) ∧
 some [IV.int IntKind.i64 (0 : Int), IV.int IntKind.i64 (0 : Int), IV.int IntKind.i64 (0 : Int), IV.int IntKind.i64 (0 : Int), IV.int IntKind.i64 (0 : Int)] =
 some [IV.int IntKind.i64 (0 : Int), IV.int IntKind.i64 (0 : Int), IV.int IntKind.i64 (0 : Int), IV.int IntKind.i64 (0 : Int), IV.int IntKind.i64 (0 : Int)] ∧
 Heap.mk
 (PT.node PT.nil
 (some
 (IObj.cells
 [IV.int IntKind.i64 (Prod.fst (lkp rows (1 : Int) (nameS s))), IV.int IntKind.i64 (Prod.fst x), IV.int IntKind.i64 v, IV.int IntKind.i64 (0 : Int),
 IV.int IntKind.i64 (0 : Int)]))
 PT.nil)
 (1 : Nat) =
 Heap.mk
 (PT.node PT.nil
 (some
 (IObj.cells
 [IV.int IntKind.i64 (Prod.fst (lkp rows (1 : Int) (nameS s))), IV.int IntKind.i64 (Prod.fst x_1), IV.int IntKind.i64 (Prod.fst (Prod.snd x_1)),
 IV.int IntKind.i64 (Prod.fst (Prod.snd (Prod.snd x_1))), IV.int IntKind.i64 (0 : Int)]))
 PT.nil)
 (1 : Nat) ∧
 (Prod.snd (lkp rows (1 : Int) (nameS s)) = true ∧
 PC (3 : Nat) s (Prod.fst (lkp rows (1 : Int) (nameS s))) (Prod.fst x_1) (Prod.fst (Prod.snd x_1)) (Prod.fst (Prod.snd (Prod.snd x_1)))
 (Prod.snd (Prod.snd (Prod.snd x_1)))) ∧
 (0 : Nat) < (2 : Nat)))))))
 (needS (true && (decide ((1 : Int) ≤ (↑(List.length (Prod.snd x)) : Int)) && decide ((↑(List.length (Prod.snd x)) : Int) ≤ (↑(List.length (Prod.snd x)) : Int))))
 ((∃ (x_1 : List (List UInt8)),
 some (TV.v (IV.str s)) = some (TV.v (IV.str s)) ∧
 some (TV.l (2 : Nat) (0 : Nat)) = some (TV.l (2 : Nat) (0 : Nat)) ∧
 some
 (TV.v
 (IV.vslice none ((0 : Nat) - (List.length (Prod.snd x) - Int.toNat (↑(List.length (Prod.snd x)) : Int)) * (1 : Nat)) (Int.toNat (↑(List.length (Prod.snd x)) : Int) - (1 : Nat)) (1 : Nat)
 (List.take ((Int.toNat (↑(List.length (Prod.snd x)) : Int) - (1 : Nat)) * (1 : Nat)) (List.drop (1 : Nat) (List.map IV.str (Prod.snd x)))))) =
 some (TV.v (IV.vslice none (0 : Nat) (List.length x_1) (1 : Nat) (List.map IV.str x_1))) ∧
 some (TV.v (IV.int IntKind.i64 (Prod.fst (lkp rows (1 : Int) (nameS s))))) = some (TV.v (IV.int IntKind.i64 (Prod.fst (lkp rows (1 : Int) (nameS s))))) ∧
 some (TV.v (IV.bool (fN (Row.fm (rowOf (Prod.fst (lkp rows (1 : Int) (nameS s)))))))) = some (TV.v (IV.bool (fN (Row.fm (rowOf (Prod.fst (lkp rows (1 : Int) (nameS s)))))))) ∧
 some (TV.v (IV.ptr (0 : Nat) (0 : Nat))) = some (TV.v (IV.ptr (0 : Nat) (0 : Nat))) ∧
 some
 (TV.v
 (IV.vslice none (1 : Nat) (3 : Nat) (2 : Nat)
 [IV.bool (fA (Row.fm (rowOf (Prod.fst (lkp rows (1 : Int) (nameS s)))))), IV.ptr (0 : Nat) (1 : Nat), IV.bool (fB (Row.fm (rowOf (Prod.fst (lkp rows (1 : Int) (nameS s)))))),
 IV.ptr (0 : Nat) (2 : Nat), IV.bool (fC (Row.fm (rowOf (Prod.fst (lkp rows (1 : Int) (nameS s)))))), IV.ptr (0 : Nat) (3 : Nat)])) =
 some
 (TV.v
 (IV.vslice none (1 : Nat) (3 : Nat) (2 : Nat)
 [IV.bool (fA (Row.fm (rowOf (Prod.fst (lkp rows (1 : Int) (nameS s)))))), IV.ptr (0 : Nat) (1 : Nat), IV.bool (fB (Row.fm (rowOf (Prod.fst (lkp rows (1 : Int) (nameS s)))))),
 IV.ptr (0 : Nat) (2 : Nat), IV.bool (fC (Row.fm (rowOf (Prod.fst (lkp rows (1 : Int) (nameS s)))))), IV.ptr (0 : Nat) (3 : Nat)])) ∧
 some (TV.v (IV.int IntKind.i64 (3 : Int))) = some (TV.v (IV.int IntKind.i64 (3 : Int))) ∧
 some (TV.v (IV.int IntKind.i64 (2 : Int))) = some (TV.v (IV.int IntKind.i64 (0 : Int))) ∧
 some [IV.int IntKind.i64 (0 : Int), IV.int IntKind.i64 (0 : Int), IV.int IntKind.i64 (0 : Int), IV.int IntKind.i64 (0 : Int), IV.int IntKind.i64 (0 : Int)] =
 some [IV.int IntKind.i64 (0 : Int), IV.int IntKind.i64 (0 : Int), IV.int IntKind.i64 (0 : Int), IV.int IntKind.i64 (0 : Int), IV.int IntKind.i64 (0 : Int)] ∧
 Heap.mk
 (PT.node PT.nil
 (some
 (IObj.cells
 [IV.int IntKind.i64 (Prod.fst (lkp rows (1 : Int) (nameS s))), IV.int IntKind.i64 (Prod.fst x), IV.int IntKind.i64 v, IV.int IntKind.i64 (0 : Int),
 IV.int IntKind.i64 (0 : Int)]))
 PT.nil)
 (1 : Nat) =
 Heap.mk
 (PT.node PT.nil
 (some
 (IObj.cells
 [IV.int IntKind.i64 (Prod.fst (lkp rows (1 : Int) (nameS s))), IV.int IntKind.i64 (0 : Int), IV.int IntKind.i64 (0 : Int), IV.int IntKind.i64 (0 : Int),
 IV.int IntKind.i64 (0 : Int)]))
 PT.nil)
 (1 : Nat) ∧
 (Prod.snd (lkp rows (1 : Int) (nameS s)) = true ∧ PC (0 : Nat) s (Prod.fst (lkp rows (1 : Int) (nameS s))) (0 : Int) (0 : Int) (0 : Int) x_1) ∧ (3 : Nat) < (2 : Nat)) ∨
 (∃ (x_1 : Int × List (List UInt8)),
 some (TV.v (IV.str s)) = some (TV.v (IV.str s)) ∧
 some (TV.l (2 : Nat) (0 : Nat)) = some (TV.l (2 : Nat) (0 : Nat)) ∧
 some
 (TV.v
 (IV.vslice none ((0 : Nat) - (List.length (Prod.snd x) - Int.toNat (↑(List.length (Prod.snd x)) : Int)) * (1 : Nat)) (Int.toNat (↑(List.length (Prod.snd x)) : Int) - (1 : Nat)) (1 : Nat)
 (List.take ((Int.toNat (↑(List.length (Prod.snd x)) : Int) - (1 : Nat)) * (1 : Nat)) (List.drop (1 : Nat) (List.map IV.str (Prod.snd x)))))) =
 some (TV.v (IV.vslice none (0 : Nat) (List.length (Prod.snd x_1)) (1 : Nat) (List.map IV.str (Prod.snd x_1)))) ∧
 some (TV.v (IV.int IntKind.i64 (Prod.fst (lkp rows (1 : Int) (nameS s))))) = some (TV.v (IV.int IntKind.i64 (Prod.fst (lkp rows (1 : Int) (nameS s))))) ∧
 some (TV.v (IV.bool (fN (Row.fm (rowOf (Prod.fst (lkp rows (1 : Int) (nameS s)))))))) = some (TV.v (IV.bool (fN (Row.fm (rowOf (Prod.fst (lkp rows (1 : Int) (nameS s)))))))) ∧
 some (TV.v (IV.ptr (0 : Nat) (0 : Nat))) = some (TV.v (IV.ptr (0 : Nat) (0 : Nat))) ∧
 some
 (TV.v
 (IV.vslice none (1 : Nat) (3 : Nat) (2 : Nat)
 [IV.bool (fA (Row.fm (rowOf (Prod.fst (lkp rows (1 : Int) (nameS s)))))), IV.ptr (0 : Nat) (1 : Nat), IV.bool (fB (Row.fm (rowOf (Prod.fst (lkp rows (1 : Int) (nameS s)))))),
 IV.ptr (0 : Nat) (2 : Nat), IV.bool (fC (Row.fm (rowOf (Prod.fst (lkp rows (1 : Int) (nameS s)))))), IV.ptr (0 : Nat) (3 : Nat)])) =
 some
 (TV.v
 (IV.vslice none (1 : Nat) (3 : Nat) (2 : Nat)
 [IV.bool (fA (Row.fm (rowOf (Prod.fst (lkp rows (1 : Int) (nameS s)))))), IV.ptr (0 : Nat) (1 : Nat), IV.bool (fB (Row.fm (rowOf (Prod.fst (lkp rows (1 : Int) (nameS s)))))),
 IV.ptr (0 : Nat) (2 : Nat), IV.bool (fC (Row.fm (rowOf (Prod.fst (lkp rows (1 : Int) (nameS s)))))), IV.ptr (0 : Nat) (3 : Nat)])) ∧
 some (TV.v (IV.int IntKind.i64 (3 : Int))) = some (TV.v (IV.int IntKind.i64 (3 : Int))) ∧
 some (TV.v (IV.int IntKind.i64 (2 : Int))) = some (TV.v (IV.int IntKind.i64 (1 : Int))) ∧
 some [IV.int IntKind.i64 (0 : Int), IV.int IntKind.i64 (0 : Int), IV.int IntKind.i64 (0 : Int), IV.int IntKind.i64 (0 : Int), IV.int IntKind.i64 (0 : Int)] =
 some [IV.int IntKind.i64 (0 : Int), IV.int IntKind.i64 (0 : Int), IV.int IntKind.i64 (0 : Int), IV.int IntKind.i64 (0 : Int), IV.int IntKind.i64 (0 : Int)] ∧
 Heap.mk
 (PT.node PT.nil
 (some
 (IObj.cells
 [IV.int IntKind.i64 (Prod.fst (lkp rows (1 : Int) (nameS s))), IV.int IntKind.i64 (Prod.fst x), IV.int IntKind.i64 v, IV.int IntKind.i64 (0 : Int),
 IV.int IntKind.i64 (0 : Int)]))
 PT.nil)
 (1 : Nat) =
 Heap.mk
 (PT.node PT.nil
 (some
 (IObj.cells
 [IV.int IntKind.i64 (Prod.fst (lkp rows (1 : Int) (nameS s))), IV.int IntKind.i64 (Prod.fst x_1), IV.int IntKind.i64 (0 : Int), IV.int IntKind.i64 (0 : Int),
 IV.int IntKind.i64 (0 : Int)]))
 PT.nil)
 (1 : Nat) ∧
 (Prod.snd (lkp rows (1 : Int) (nameS s)) = true ∧ PC (1 : Nat) s (Prod.fst (lkp rows (1 : Int) (nameS s))) (Prod.fst x_1) (0 : Int) (0 : Int) (Prod.snd x_1)) ∧
 (2 : Nat) < (2 : Nat)) ∨
 (∃ (x_1 : Int × Int × List (List UInt8)),
 some (TV.v (IV.str s)) = some (TV.v (IV.str s)) ∧
 some (TV.l (2 : Nat) (0 : Nat)) = some (TV.l (2 : Nat) (0 : Nat)) ∧
 some
 (TV.v
 (IV.vslice none ((0 : Nat) - (List.length (Prod.snd x) - Int.toNat (↑(List.length (Prod.snd x)) : Int)) * (1 : Nat)) (Int.toNat (↑(List.length (Prod.snd x)) : Int) - (1 : Nat)) (1 : Nat)
 (List.take ((Int.toNat (↑(List.length (Prod.snd x)) : Int) - (1 : Nat)) * (1 : Nat)) (List.drop (1 : Nat) (List.map IV.str (Prod.snd x)))))) =
 some (TV.v (IV.vslice none (0 : Nat) (List.length (Prod.snd (Prod.snd x_1))) (1 : Nat) (List.map IV.str (Prod.snd (Prod.snd x_1))))) ∧
 some (TV.v (IV.int IntKind.i64 (Prod.fst (lkp rows (1 : Int) (nameS s))))) = some (TV.v (IV.int IntKind.i64 (Prod.fst (lkp rows (1 : Int) (nameS s))))) ∧
 some (TV.v (IV.bool (fN (Row.fm (rowOf (Prod.fst (lkp rows (1 : Int) (nameS s)))))))) = some (TV.v (IV.bool (fN (Row.fm (rowOf (Prod.fst (lkp rows (1 : Int) (nameS s)))))))) ∧
 some (TV.v (IV.ptr (0 : Nat) (0 : Nat))) = some (TV.v (IV.ptr (0 : Nat) (0 : Nat))) ∧
 some
 (TV.v
 (IV.vslice none (1 : Nat) (3 : Nat) (2 : Nat)
 [IV.bool (fA (Row.fm (rowOf (Prod.fst (lkp rows (1 : Int) (nameS s)))))), IV.ptr (0 : Nat) (1 : Nat), IV.bool (fB (Row.fm (rowOf (Prod.fst (lkp rows (1 : Int) (nameS s)))))),
 IV.ptr (0 : Nat) (2 : Nat), IV.bool (fC (Row.fm (rowOf (Prod.fst (lkp rows (1 : Int) (nameS s)))))), IV.ptr (0 : Nat) (3 : Nat)])) =
 some
 (TV.v
 (IV.vslice none (1 : Nat) (3 : Nat) (2 : Nat)
 [IV.bool (fA (Row.fm (rowOf (Prod.fst (lkp rows (1 : Int) (nameS s)))))), IV.ptr (0 : Nat) (1 : Nat), IV.bool (fB (Row.fm (rowOf (Prod.fst (lkp rows (1 : Int) (nameS s)))))),
 IV.ptr (0 : Nat) (2 : Nat), IV.bool (fC (Row.fm (rowOf (Prod.fst (lkp rows (1 : Int) (nameS s)))))), IV.ptr (0 : Nat) (3 : Nat)])) ∧
 some (TV.v (IV.int IntKind.i64 (3 : Int))) = some (TV.v (IV.int IntKind.i64 (3 : Int))) ∧
 some (TV.v (IV.int IntKind.i64 (2 : Int))) = some (TV.v (IV.int IntKind.i64 (2 : Int))) ∧
 some [IV.int IntKind.i64 (0 : Int), IV.int IntKind.i64 (0 : Int), IV.int IntKind.i64 (0 : Int), IV.int IntKind.i64 (0 : Int), IV.int IntKind.i64 (0 : Int)] =
 some [IV.int IntKind.i64 (0 : Int), IV.int IntKind.i64 (0 : Int), IV.int IntKind.i64 (0 : Int), IV.int IntKind.i64 (0 : Int), IV.int IntKind.i64 (0 : Int)] ∧
 Heap.mk
 (PT.node PT.nil
 (some
 (IObj.cells
 [IV.int IntKind.i64 (Prod.fst (lkp rows (1 : Int) (nameS s))), IV.int IntKind.i64 (Prod.fst x), IV.int IntKind.i64 v, IV.int IntKind.i64 (0 : Int),
 IV.int IntKind.i64 (0 : Int)]))
 PT.nil)
 (1 : Nat) =
 Heap.mk
 (PT.node PT.nil
 (some
 (IObj.cells
 [IV.int IntKind.i64 (Prod.fst (lkp rows (1 : Int) (nameS s))), IV.int IntKind.i64 (Prod.fst x_1), IV.int IntKind.i64 (Prod.fst (Prod.snd x_1)),
 IV.int IntKind.i64 (0 : Int), IV.int IntKind.i64 (0 : Int)]))
 PT.nil)
 (1 : Nat) ∧
 (Prod.snd (lkp rows (1 : Int) (nameS s)) = true ∧
 PC (2 : Nat) s (Prod.fst (lkp rows (1 : Int) (nameS s))) (Prod.fst x_1) (Prod.fst (Prod.snd x_1)) (0 : Int) (Prod.snd (Prod.snd x_1))) ∧
 (1 : Nat) < (2 : Nat)) ∨
 ∃ (x_1 : Int × Int × Int × List (List UInt8)),
 some (TV.v (IV.str s)) = some (TV.v (IV.str s)) ∧
 some (TV.l (2 : Nat) (0 : Nat)) = some (TV.l (2 : Nat) (0 : Nat)) ∧
 some
 (TV.v
 (IV.vslice none ((0 : Nat) - (List.length (Prod.snd x) - Int.toNat (↑(List.length (Prod.snd x)) : Int)) * (1 : Nat)) (Int.toNat (↑(List.length (Prod.snd x)) : Int) - (1 : Nat)) (1 : Nat)
 (List.take ((Int.toNat (↑(List.length (Prod.snd x)) : Int) - (1 : Nat)) * (1 : Nat)) (List.drop (1 : Nat) (List.map IV.str (Prod.snd x)))))) =
 some (TV.v (IV.vslice none (0 : Nat) (List.length (Prod.snd (Prod.snd (Prod.snd x_1)))) (1 : Nat) (List.map IV.str (Prod.snd (Prod.snd (Prod.snd x_1)))))) ∧
 some (TV.v (IV.int IntKind.i64 (Prod.fst (lkp rows (1 : Int) (nameS s))))) = some (TV.v (IV.int IntKind.i64 (Prod.fst (lkp rows (1 : Int) (nameS s))))) ∧
 some (TV.v (IV.bool (fN (Row.fm (rowOf (Prod.fst (lkp rows (1 : Int) (nameS s)))))))) = some (TV.v (IV.bool (fN (Row.fm (rowOf (Prod.fst (lkp rows (1 : Int) (nameS s)))))))) ∧
 some (TV.v (IV.ptr (0 : Nat) (0 : Nat))) = some (TV.v (IV.ptr (0 : Nat) (0 : Nat))) ∧
 some
 (TV.v
 (IV.vslice none (1 : Nat) (3 : Nat) (2 : Nat)
 [IV.bool (fA (Row.fm (rowOf (Prod.fst (lkp rows (1 : Int) (nameS s)))))), IV.ptr (0 : Nat) (1 : Nat), IV.bool (fB (Row.fm (rowOf (Prod.fst (lkp rows (1 : Int) (nameS s)))))),
 IV.ptr (0 : Nat) (2 : Nat), IV.bool (fC (Row.fm (rowOf (Prod.fst (lkp rows (1 : Int) (nameS s)))))), IV.ptr (0 : Nat) (3 : Nat)])) =
 some
 (TV.v
 (IV.vslice none (1 : Nat) (3 : Nat) (2 : Nat)
 [IV.bool (fA (Row.fm (rowOf (Prod.fst (lkp rows (1 : Int) (nameS s)))))), IV.ptr (0 : Nat) (1 : Nat), IV.bool (fB (Row.fm (rowOf (Prod.fst (lkp rows (1 : Int) (nameS s)))))),
 IV.ptr (0 : Nat) (2 : Nat), IV.bool (fC (Row.fm (rowOf (Prod.fst (lkp rows (1 : Int) (nameS s)))))), IV.ptr (0 : Nat) (3 : Nat)])) ∧
 some (TV.v (IV.int IntKind.i64 (3 : Int))) = some (TV.v (IV.int IntKind.i64 (3 : Int))) ∧
 some (TV.v (IV.int IntKind.i64 (2 : Int))) = some (TV.v (IV.int IntKind.i64 (3 : Int))) ∧
 some [IV.int IntKind.i64 (0 : Int), IV.int IntKind.i64 (0 : Int), IV.int IntKind.i64 (0 : Int), IV.int IntKind.i64 (0 : Int), IV.int IntKind.i64 (0 : Int)] =
 some [IV.int IntKind.i64 (0 : Int), IV.int IntKind.i64 (0 : Int), IV.int IntKind.i64 (0 : Int), IV.int IntKind.i64 (0 : Int), IV.int IntKind.i64 (0 : Int)] ∧
 Heap.mk
 (PT.node PT.nil
 (some
 (IObj.cells
 [IV.int IntKind.i64 (Prod.fst (lkp rows (1 : Int) (nameS s))), IV.int IntKind.i64 (Prod.fst x), IV.int IntKind.i64 v, IV.int IntKind.i64 (0 : Int),
 IV.int IntKind.i64 (0 : Int)]))
 PT.nil)
 (1 : Nat) =
 Heap.mk
 (PT.node PT.nil
 (some
 (IObj.cells
 [IV.int IntKind.i64 (Prod.fst (lkp rows (1 : Int) (nameS s))), IV.int IntKind.i64 (Prod.fst x_1), IV.int IntKind.i64 (Prod.fst (Prod.snd x_1)),
 IV.int IntKind.i64 (Prod.fst (Prod.snd (Prod.snd x_1))), IV.int IntKind.i64 (0 : Int)]))
 PT.nil)
 (1 : Nat) ∧
 (Prod.snd (lkp rows (1 : Int) (nameS s)) = true ∧
 PC (3 : Nat) s (Prod.fst (lkp rows (1 : Int) (nameS s))) (Prod.fst x_1) (Prod.fst (Prod.snd x_1)) (Prod.fst (Prod.snd (Prod.snd x_1))) (Prod.snd (Prod.snd (Prod.snd x_1)))) ∧
 (0 : Nat) < (2 : Nat))))))) ∧
 (∀ (x : Int × Int × List (List UInt8)) (b : FF),
 Prod.snd (lkp rows (1 : Int) (nameS s)) = true ∧ PC (2 : Nat) s (Prod.fst (lkp rows (1 : Int) (nameS s))) (Prod.fst x) (Prod.fst (Prod.snd x)) (0 : Int) (Prod.snd (Prod.snd x)) →
 brS (!fC (Row.fm (rowOf (Prod.fst (lkp rows (1 : Int) (nameS s))))))
 ((∃ (x_1 : List (List UInt8)),
 some (TV.v (IV.str s)) = some (TV.v (IV.str s)) ∧
 some (TV.l (2 : Nat) (0 : Nat)) = some (TV.l (2 : Nat) (0 : Nat)) ∧
 some (TV.v (IV.vslice none (0 : Nat) (List.length (Prod.snd (Prod.snd x))) (1 : Nat) (List.map IV.str (Prod.snd (Prod.snd x))))) =
 some (TV.v (IV.vslice none (0 : Nat) (List.length x_1) (1 : Nat) (List.map IV.str x_1))) ∧
 some (TV.v (IV.int IntKind.i64 (Prod.fst (lkp rows (1 : Int) (nameS s))))) = some (TV.v (IV.int IntKind.i64 (Prod.fst (lkp rows (1 : Int) (nameS s))))) ∧
 some (TV.v (IV.bool (fN (Row.fm (rowOf (Prod.fst (lkp rows (1 : Int) (nameS s)))))))) = some (TV.v (IV.bool (fN (Row.fm (rowOf (Prod.fst (lkp rows (1 : Int) (nameS s)))))))) ∧
 some (TV.v (IV.ptr (0 : Nat) (0 : Nat))) = some (TV.v (IV.ptr (0 : Nat) (0 : Nat))) ∧
 some
 (TV.v
 (IV.vslice none (1 : Nat) (3 : Nat) (2 : Nat)
 [IV.bool (fA (Row.fm (rowOf (Prod.fst (lkp rows (1 : Int) (nameS s)))))), IV.ptr (0 : Nat) (1 : Nat), IV.bool (fB (Row.fm (rowOf (Prod.fst (lkp rows (1 : Int) (nameS s)))))),
 IV.ptr (0 : Nat) (2 : Nat), IV.bool (fC (Row.fm (rowOf (Prod.fst (lkp rows (1 : Int) (nameS s)))))), IV.ptr (0 : Nat) (3 : Nat)])) =
 some
 (TV.v
 (IV.vslice none (1 : Nat) (3 : Nat) (2 : Nat)
 [IV.bool (fA (Row.fm (rowOf (Prod.fst (lkp rows (1 : Int) (nameS s)))))), IV.ptr (0 : Nat) (1 : Nat), IV.bool (fB (Row.fm (rowOf (Prod.fst (lkp rows (1 : Int) (nameS s)))))),
 IV.ptr (0 : Nat) (2 : Nat), IV.bool (fC (Row.fm (rowOf (Prod.fst (lkp rows (1 : Int) (nameS s)))))), IV.ptr (0 : Nat) (3 : Nat)])) ∧
 some (TV.v (IV.int IntKind.i64 (3 : Int))) = some (TV.v (IV.int IntKind.i64 (3 : Int))) ∧
 some (TV.v (IV.int IntKind.i64 (3 : Int))) = some (TV.v (IV.int IntKind.i64 (0 : Int))) ∧
 some [IV.int IntKind.i64 (0 : Int), IV.int IntKind.i64 (0 : Int), IV.int IntKind.i64 (0 : Int), IV.int IntKind.i64 (0 : Int), IV.int IntKind.i64 (0 : Int)] =
 some [IV.int IntKind.i64 (0 : Int), IV.int IntKind.i64 (0 : Int), IV.int IntKind.i64 (0 : Int), IV.int IntKind.i64 (0 : Int), IV.int IntKind.i64 (0 : Int)] ∧
 Heap.mk
 (PT.node PT.nil
 (some
 (IObj.cells
 [IV.int IntKind.i64 (Prod.fst (lkp rows (1 : Int) (nameS s))), IV.int IntKind.i64 (Prod.fst x), IV.int IntKind.i64 (Prod.fst (Prod.snd x)), IV.int IntKind.i64 (0 : Int),
 IV.int IntKind.i64 (0 : Int)]))
 PT.nil)
 (1 : Nat) =
 Heap.mk
 (PT.node PT.nil
 (some
 (IObj.cells
 [IV.int IntKind.i64 (Prod.fst (lkp rows (1 : Int) (nameS s))), IV.int IntKind.i64 (0 : Int), IV.int IntKind.i64 (0 : Int), IV.int IntKind.i64 (0 : Int), IV.int IntKind.i64 (0 : Int)]))
 PT.nil)
 (1 : Nat) ∧
 (Prod.snd (lkp rows (1 : Int) (nameS s)) = true ∧ PC (0 : Nat) s (Prod.fst (lkp rows (1 : Int) (nameS s))) (0 : Int) (0 : Int) (0 : Int) x_1) ∧ (3 : Nat) < (1 : Nat)) ∨
 (∃ (x_1 : Int × List (List UInt8)),
 some (TV.v (IV.str s)) = some (TV.v (IV.str s)) ∧
 some (TV.l (2 : Nat) (0 : Nat)) = some (TV.l (2 : Nat) (0 : Nat)) ∧
 some (TV.v (IV.vslice none (0 : Nat) (List.length (Prod.snd (Prod.snd x))) (1 : Nat) (List.map IV.str (Prod.snd (Prod.snd x))))) =
 some (TV.v (IV.vslice none (0 : Nat) (List.length (Prod.snd x_1)) (1 : Nat) (List.map IV.str (Prod.snd x_1)))) ∧
 some (TV.v (IV.int IntKind.i64 (Prod.fst (lkp rows (1 : Int) (nameS s))))) = some (TV.v (IV.int IntKind.i64 (Prod.fst (lkp rows (1 : Int) (nameS s))))) ∧
 some (TV.v (IV.bool (fN (Row.fm (rowOf (Prod.fst (lkp rows (1 : Int) (nameS s)))))))) = some (TV.v (IV.bool (fN (Row.fm (rowOf (Prod.fst (lkp rows (1 : Int) (nameS s)))))))) ∧
 some (TV.v (IV.ptr (0 : Nat) (0 : Nat))) = some (TV.v (IV.ptr (0 : Nat) (0 : Nat))) ∧
 some
 (TV.v
 (IV.vslice none (1 : Nat) (3 : Nat) (2 : Nat)
 [IV.bool (fA (Row.fm (rowOf (Prod.fst (lkp rows (1 : Int) (nameS s)))))), IV.ptr (0 : Nat) (1 : Nat), IV.bool (fB (Row.fm (rowOf (Prod.fst (lkp rows (1 : Int) (nameS s)))))),
 IV.ptr (0 : Nat) (2 : Nat), IV.bool (fC (Row.fm (rowOf (Prod.fst (lkp rows (1 : Int) (nameS s)))))), IV.ptr (0 : Nat) (3 : Nat)])) =
 some
 (TV.v
 (IV.vslice none (1 : Nat) (3 : Nat) (2 : Nat)
 [IV.bool (fA (Row.fm (rowOf (Prod.fst (lkp rows (1 : Int) (nameS s)))))), IV.ptr (0 : Nat) (1 : Nat), IV.bool (fB (Row.fm (rowOf (Prod.fst (lkp rows (1 : Int) (nameS s)))))),
 IV.ptr (0 : Nat) (2 : Nat), IV.bool (fC (Row.fm (rowOf (Prod.fst (lkp rows (1 : Int) (nameS s)))))), IV.ptr (0 : Nat) (3 : Nat)])) ∧
 some (TV.v (IV.int IntKind.i64 (3 : Int))) = some (TV.v (IV.int IntKind.i64 (3 : Int))) ∧
 some (TV.v (IV.int IntKind.i64 (3 : Int))) = some (TV.v (IV.int IntKind.i64 (1 : Int))) ∧
 some [IV.int IntKind.i64 (0 : Int), IV.int IntKind.i64 (0 : Int), IV.int IntKind.i64 (0 : Int), IV.int IntKind.i64 (0 : Int), IV.int IntKind.i64 (0 : Int)] =
 some [IV.int IntKind.i64 (0 : Int), IV.int IntKind.i64 (0 : Int), IV.int IntKind.i64 (0 : Int), IV.int IntKind.i64 (0 : Int), IV.int IntKind.i64 (0 : Int)] ∧
 Heap.mk
 (PT.node PT.nil
 (some
 (IObj.cells
 [IV.int IntKind.i64 (Prod.fst (lkp rows (1 : Int) (nameS s))), IV.int IntKind.i64 (Prod.fst x), IV.int IntKind.i64 (Prod.fst (Prod.snd x)), IV.int IntKind.i64 (0 : Int),
 IV.int IntKind.i64 (0 : Int)]))
 PT.nil)
 (1 : Nat) =
 Heap.mk
 (PT.node PT.nil
 (some
 (IObj.cells
 [IV.int IntKind.i64 (Prod.fst (lkp rows (1 : Int) (nameS s))), IV.int IntKind.i64 (Prod.fst x_1), IV.int IntKind.i64 (0 : Int), IV.int IntKind.i64 (0 : Int),
 IV.int IntKind.i64 (0 : Int)]))
 PT.nil)
 (1 : Nat) ∧
 (Prod.snd (lkp rows (1 : Int) (nameS s)) = true ∧ PC (1 : Nat) s (Prod.fst (lkp rows (1 : Int) (nameS s))) (Prod.fst x_1) (0 : Int) (0 : Int) (Prod.snd x_1)) ∧ (2 : Nat) < (1 : Nat)) ∨
 (∃ (x_1 : Int × Int × List (List UInt8)),
 some (TV.v (IV.str s)) = some (TV.v (IV.str s)) ∧
 some (TV.l (2 : Nat) (0 : Nat)) = some (TV.l (2 : Nat) (0 : Nat)) ∧
 some (TV.v (IV.vslice none (0 : Nat) (List.length (Prod.snd (Prod.snd x))) (1 : Nat) (List.map IV.str (Prod.snd (Prod.snd x))))) =
 some (TV.v (IV.vslice none (0 : Nat) (List.length (Prod.snd (Prod.snd x_1))) (1 : Nat) (List.map IV.str (Prod.snd (Prod.snd x_1))))) ∧
 some (TV.v (IV.int IntKind.i64 (Prod.fst (lkp rows (1 : Int) (nameS s))))) = some (TV.v (IV.int IntKind.i64 (Prod.fst (lkp rows (1 : Int) (nameS s))))) ∧
 some (TV.v (IV.bool (fN (Row.fm (rowOf (Prod.fst (lkp rows (1 : Int) (nameS s)))))))) = some (TV.v (IV.bool (fN (Row.fm (rowOf (Prod.fst (lkp rows (1 : Int) (nameS s)))))))) ∧
 some (TV.v (IV.ptr (0 : Nat) (0 : Nat))) = some (TV.v (IV.ptr (0 : Nat) (0 : Nat))) ∧
 some
 (TV.v
 (IV.vslice none (1 : Nat) (3 : Nat) (2 : Nat)
 [IV.bool (fA (Row.fm (rowOf (Prod.fst (lkp rows (1 : Int) (nameS s)))))), IV.ptr (0 : Nat) (1 : Nat), IV.bool (fB (Row.fm (rowOf (Prod.fst (lkp rows (1 : Int) (nameS s)))))),
 IV.ptr (0 : Nat) (2 : Nat), IV.bool (fC (Row.fm (rowOf (Prod.fst (lkp rows (1 : Int) (nameS s)))))), IV.ptr (0 : Nat) (3 : Nat)])) =
 some
 (TV.v
 (IV.vslice none (1 : Nat) (3 : Nat) (2 : Nat)
 [IV.bool (fA (Row.fm (rowOf (Prod.fst (lkp rows (1 : Int) (nameS s)))))), IV.ptr (0 : Nat) (1 : Nat), IV.bool (fB (Row.fm (rowOf (Prod.fst (lkp rows (1 : Int) (nameS s)))))),
 IV.ptr (0 : Nat) (2 : Nat), IV.bool (fC (Row.fm (rowOf (Prod.fst (lkp rows (1 : Int) (nameS s)))))), IV.ptr (0 : Nat) (3 : Nat)])) ∧
 some (TV.v (IV.int IntKind.i64 (3 : Int))) = some (TV.v (IV.int IntKind.i64 (3 : Int))) ∧
 some (TV.v (IV.int IntKind.i64 (3 : Int))) = some (TV.v (IV.int IntKind.i64 (2 : Int))) ∧
 some [IV.int IntKind.i64 (0 : Int), IV.int IntKind.i64 (0 : Int), IV.int IntKind.i64 (0 : Int), IV.int IntKind.i64 (0 : Int), IV.int IntKind.i64 (0 : Int)] =
 some [IV.int IntKind.i64 (0 : Int), IV.int IntKind.i64 (0 : Int), IV.int IntKind.i64 (0 : Int), IV.int IntKind.i64 (0 : Int), IV.int IntKind.i64 (0 : Int)] ∧
 Heap.mk
 (PT.node PT.nil
 (some
 (IObj.cells
 [IV.int IntKind.i64 (Prod.fst (lkp rows (1 : Int) (nameS s))), IV.int IntKind.i64 (Prod.fst x), IV.int IntKind.i64 (Prod.fst (Prod.snd x)), IV.int IntKind.i64 (0 : Int),
 IV.int IntKind.i64 (0 : Int)]))
 PT.nil)
 (1 : Nat) =
 Heap.mk
 (PT.node PT.nil
 (some
 (IObj.cells
 [IV.int IntKind.i64 (Prod.fst (lkp rows (1 : Int) (nameS s))), IV.int IntKind.i64 (Prod.fst x_1), IV.int IntKind.i64 (Prod.fst (Prod.snd x_1)), IV.int IntKind.i64 (0 : Int),
 IV.int IntKind.i64 (0 : Int)]))
 PT.nil)
 (1 : Nat) ∧
 (Prod.snd (lkp rows (1 : Int) (nameS s)) = true ∧ PC (2 : Nat) s (Prod.fst (lkp rows (1 : Int) (nameS s))) (Prod.fst x_1) (Prod.fst (Prod.snd x_1)) (0 : Int) (Prod.snd (Prod.snd x_1))) ∧
 (1 : Nat) < (1 : Nat)) ∨
 ∃ (x_1 : Int × Int × Int × List (List UInt8)),
 some (TV.v (IV.str s)) = some (TV.v (IV.str s)) ∧
 some (TV.l (2 : Nat) (0 : Nat)) = some (TV.l (2 : Nat) (0 : Nat)) ∧
 some (TV.v (IV.vslice none (0 : Nat) (List.length (Prod.snd (Prod.snd x))) (1 : Nat) (List.map IV.str (Prod.snd (Prod.snd x))))) =
 some (TV.v (IV.vslice none (0 : Nat) (List.length (Prod.snd (Prod.snd (Prod.snd x_1)))) (1 : Nat) (List.map IV.str (Prod.snd (Prod.snd (Prod.snd x_1)))))) ∧
 some (TV.v (IV.int IntKind.i64 (Prod.fst (lkp rows (1 : Int) (nameS s))))) = some (TV.v (IV.int IntKind.i64 (Prod.fst (lkp rows (1 : Int) (nameS s))))) ∧
 some (TV.v (IV.bool (fN (Row.fm (rowOf (Prod.fst (lkp rows (1 : Int) (nameS s)))))))) = some (TV.v (IV.bool (fN (Row.fm (rowOf (Prod.fst (lkp rows (1 : Int) (nameS s)))))))) ∧
 some (TV.v (IV.ptr (0 : Nat) (0 : Nat))) = some (TV.v (IV.ptr (0 : Nat) (0 : Nat))) ∧
 some
 (TV.v
 (IV.vslice none (1 : Nat) (3 : Nat) (2 : Nat)
 [IV.bool (fA (Row.fm (rowOf (Prod.fst (lkp rows (1 : Int) (nameS s)))))), IV.ptr (0 : Nat) (1 : Nat), IV.bool (fB (Row.fm (rowOf (Prod.fst (lkp rows (1 : Int) (nameS s)))))),
 IV.ptr (0 : Nat) (2 : Nat), IV.bool (fC (Row.fm (rowOf (Prod.fst (lkp rows (1 : Int) (nameS s)))))), IV.ptr (0 : Nat) (3 : Nat)])) =
 some
 (TV.v
 (IV.vslice none (1 : Nat) (3 : Nat) (2 : Nat)
 [IV.bool (fA (Row.fm (rowOf (Prod.fst (lkp rows (1 : Int) (nameS s)))))), IV.ptr (0 : Nat) (1 : Nat), IV.bool (fB (Row.fm (rowOf (Prod.fst (lkp rows (1 : Int) (nameS s)))))),
 IV.ptr (0 : Nat) (2 : Nat), IV.bool (fC (Row.fm (rowOf (Prod.fst (lkp rows (1 : Int) (nameS s)))))), IV.ptr (0 : Nat) (3 : Nat)])) ∧
 some (TV.v (IV.int IntKind.i64 (3 : Int))) = some (TV.v (IV.int IntKind.i64 (3 : Int))) ∧
 some (TV.v (IV.int IntKind.i64 (3 : Int))) = some (TV.v (IV.int IntKind.i64 (3 : Int))) ∧
 some [IV.int IntKind.i64 (0 : Int), IV.int IntKind.i64 (0 : Int), IV.int IntKind.i64 (0 : Int), IV.int IntKind.i64 (0 : Int), IV.int IntKind.i64 (0 : Int)] =
 some [IV.int IntKind.i64 (0 : Int), IV.int IntKind.i64 (0 : Int), IV.int IntKind.i64 (0 : Int), IV.int IntKind.i64 (0 : Int), IV.int IntKind.i64 (0 : Int)] ∧
 Heap.mk
 (PT.node PT.nil
 (some
 (IObj.cells
 [IV.int IntKind.i64 (Prod.fst (lkp rows (1 : Int) (nameS s))), IV.int IntKind.i64 (Prod.fst x), IV.int IntKind.i64 (Prod.fst (Prod.snd x)), IV.int IntKind.i64 (0 : Int),
 IV.int IntKind.i64 (0 : Int)]))
 PT.nil)
 (1 : Nat) =
 Heap.mk
 (PT.node PT.nil
 (some
 (IObj.cells
 [IV.int IntKind.i64 (Prod.fst (lkp rows (1 : Int) (nameS s))), IV.int IntKind.i64 (Prod.fst x_1), IV.int IntKind.i64 (Prod.fst (Prod.snd x_1)),
 IV.int IntKind.i64 (Prod.fst (Prod.snd (Prod.snd x_1))), IV.int IntKind.i64 (0 : Int)]))
 PT.nil)
 (1 : Nat) ∧
 (Prod.snd (lkp rows (1 : Int) (nameS s)) = true ∧
 PC (3 : Nat) s (Prod.fst (lkp rows (1 : Int) (nameS s))) (Prod.fst x_1) (Prod.fst (Prod.snd x_1)) (Prod.fst (Prod.snd (Prod.snd x_1))) (Prod.snd (Prod.snd (Prod.snd x_1)))) ∧
 (0 : Nat) < (1 : Nat))
 (brS ((↑(List.length (Prod.snd (Prod.snd x))) : Int) == (0 : Int))
 (Q (IV.tuple [IV.agg [IV.int IntKind.i64 (0 : Int), IV.int IntKind.i64 (0 : Int), IV.int IntKind.i64 (0 : Int), IV.int IntKind.i64 (0 : Int), IV.int IntKind.i64 (0 : Int)], IV.bool false]) h)
 (needS (true && decide ((0 : Int) < (↑(List.length (Prod.snd (Prod.snd x))) : Int)))
 (ldSS (List.map IV.str (Prod.snd (Prod.snd x))) (0 : Nat) fun (s4 : List UInt8) =>
 ∀ (v : Int),
 (-9223372036854775808 : Int) ≤ v ∧ v ≤ (9223372036854775807 : Int) →
 (∀ (n : Int), (0 : Int) ≤ n → n ≤ (7 : Int) → s4 = (114 : UInt8) :: txt n → v = n) →
 brS (Prod.fst (lkp rows (1 : Int) (nameS s)) == (6 : Int))
 (needS (true && decide ((0 : Int) < (↑(List.length (Prod.snd (Prod.snd x))) : Int)))
 (ldSS (List.map IV.str (Prod.snd (Prod.snd x))) (0 : Nat) fun (s5 : List UInt8) =>
 ∀ (v : Int) (b : Bool),
 (-9223372036854775808 : Int) ≤ v ∧ v ≤ (9223372036854775807 : Int) →
 (∀ (n : Int), (-9223372036854775808 : Int) ≤ n ∧ n ≤ (9223372036854775807 : Int) → s5 = txt n → v = n ∧ b = true) →
 brS (!b)
 (Q (IV.tuple [IV.agg [IV.int IntKind.i64 (0 : Int), IV.int IntKind.i64 (0 : Int), IV.int IntKind.i64 (0 : Int), IV.int IntKind.i64 (0 : Int), IV.int IntKind.i64 (0 : Int)], IV.bool false]) h)
 (brS (decide (v < (0 : Int)))
 (Q (IV.tuple [IV.agg [IV.int IntKind.i64 (0 : Int), IV.int IntKind.i64 (0 : Int), IV.int IntKind.i64 (0 : Int), IV.int IntKind.i64 (0 : Int), IV.int IntKind.i64 (0 : Int)], IV.bool false]) h)
 (brS (decide (v > (6 : Int)))
 (Q (IV.tuple [IV.agg [IV.int IntKind.i64 (0 : Int), IV.int IntKind.i64 (0 : Int), IV.int IntKind.i64 (0 : Int), IV.int IntKind.i64 (0 : Int), IV.int IntKind.i64 (0 : Int)], IV.bool false]) h)
 (needS
 (true && (decide ((1 : Int) ≤ (↑(List.length (Prod.snd (Prod.snd x))) : Int)) && decide ((↑(List.length (Prod.snd (Prod.snd x))) : Int) ≤ (↑(List.length (Prod.snd (Prod.snd x))) : Int))))
 ((∃ (x_1 : List (List UInt8)),
 some (TV.v (IV.str s)) = some (TV.v (IV.str s)) ∧
 some (TV.l (2 : Nat) (0 : Nat)) = some (TV.l (2 : Nat) (0 : Nat)) ∧
 some
 (TV.v
 (IV.vslice none ((0 : Nat) - (List.length (Prod.snd (Prod.snd x)) - Int.toNat (↑(List.length (Prod.snd (Prod.snd x))) : Int)) * (1 : Nat))
 (Int.toNat (↑(List.length (Prod.snd (Prod.snd x))) : Int) - (1 : Nat)) (1 : Nat)
 (List.take ((Int.toNat (↑(List.length (Prod.snd (Prod.snd x))) : Int) - (1 : Nat)) * (1 : Nat)) (List.drop (1 : Nat) (List.map IV.str (Prod.snd (Prod.snd x))))))) =
 some (TV.v (IV.vslice none (0 : Nat) (List.length x_1) (1 : Nat) (List.map IV.str x_1))) ∧
 some (TV.v (IV.int IntKind.i64 (Prod.fst (lkp rows (1 : Int) (nameS s))))) = some (TV.v (IV.int IntKind.i64 (Prod.fst (lkp rows (1 : Int) (nameS s))))) ∧
 some (TV.v (IV.bool (fN (Row.fm (rowOf (Prod.fst (lkp rows (1 : Int) (nameS s)))))))) = some (TV.v (IV.bool (fN (Row.fm (rowOf (Prod.fst (lkp rows (1 : Int) (nameS s)))))))) ∧
 some (TV.v (IV.ptr (0 : Nat) (0 : Nat))) = some (TV.v (IV.ptr (0 : Nat) (0 : Nat))) ∧
 some
 (TV.v
 (IV.vslice none (1 : Nat) (3 : Nat) (2 : Nat)
 [IV.bool (fA (Row.fm (rowOf (Prod.fst (lkp rows (1 : Int) (nameS s)))))), IV.ptr (0 : Nat) (1 : Nat),
 IV.bool (fB (Row.fm (rowOf (Prod.fst (lkp rows (1 : Int) (nameS s)))))), IV.ptr (0 : Nat) (2 : Nat),
 IV.bool (fC (Row.fm (rowOf (Prod.fst (lkp rows (1 : Int) (nameS s)))))), IV.ptr (0 : Nat) (3 : Nat)])) =
 some
 (TV.v
 (IV.vslice none (1 : Nat) (3 : Nat) (2 : Nat)
 [IV.bool (fA (Row.fm (rowOf (Prod.fst (lkp rows (1 : Int) (nameS s)))))), IV.ptr (0 : Nat) (1 : Nat),
 IV.bool (fB (Row.fm (rowOf (Prod.fst (lkp rows (1 : Int) (nameS s)))))), IV.ptr (0 : Nat) (2 : Nat),
 IV.bool (fC (Row.fm (rowOf (Prod.fst (lkp rows (1 : Int) (nameS s)))))), IV.ptr (0 : Nat) (3 : Nat)])) ∧
 some (TV.v (IV.int IntKind.i64 (3 : Int))) = some (TV.v (IV.int IntKind.i64 (3 : Int))) ∧
 some (TV.v (IV.int IntKind.i64 (3 : Int))) = some (TV.v (IV.int IntKind.i64 (0 : Int))) ∧
 some [IV.int IntKind.i64 (0 : Int), IV.int IntKind.i64 (0 : Int), IV.int IntKind.i64 (0 : Int), IV.int IntKind.i64 (0 : Int), IV.int IntKind.i64 (0 : Int)] =
 some [IV.int IntKind.i64 (0 : Int), IV.int IntKind.i64 (0 : Int), IV.int IntKind.i64 (0 : Int), IV.int IntKind.i64 (0 : Int), IV.int IntKind.i64 (0 : Int)] ∧
 Heap.mk
 (PT.node PT.nil
 (some
 (IObj.cells
 [IV.int IntKind.i64 (Prod.fst (lkp rows (1 : Int) (nameS s))), IV.int IntKind.i64 (Prod.fst x), IV.int IntKind.i64 (Prod.fst (Prod.snd x)),
 IV.int IntKind.i64 v, IV.int IntKind.i64 (0 : Int)]))
 PT.nil)
 (1 : Nat) =
 Heap.mk
 (PT.node PT.nil
 (some
 (IObj.cells
 [IV.int IntKind.i64 (Prod.fst (lkp rows (1 : Int) (nameS s))), IV.int IntKind.i64 (0 : Int), IV.int IntKind.i64 (0 : Int), IV.int IntKind.i64 (0 : Int),
 IV.int IntKind.i64 (0 : Int)]))
 PT.nil)
 (1 : Nat) ∧
 (Prod.snd (lkp rows (1 : Int) (nameS s)) = true ∧ PC (0 : Nat) s (Prod.fst (lkp rows (1 : Int) (nameS s))) (0 : Int) (0 : Int) (0 : Int) x_1) ∧
 (3 : Nat) < (1 : Nat)) ∨
 (∃ (x_1 : Int × List (List UInt8)),
 some (TV.v (IV.str s)) = some (TV.v (IV.str s)) ∧
 some (TV.l (2 : Nat) (0 : Nat)) = some (TV.l (2 : Nat) (0 : Nat)) ∧
 some
 (TV.v
 (IV.vslice none ((0 : Nat) - (List.length (Prod.snd (Prod.snd x)) - Int.toNat (↑(List.length (Prod.snd (Prod.snd x))) : Int)) * (1 : Nat))
 (Int.toNat (↑(List.length (Prod.snd (Prod.snd x))) : Int) - (1 : Nat)) (1 : Nat)
 (List.take ((Int.toNat (↑(List.length (Prod.snd (Prod.snd x))) : Int) - (1 : Nat)) * (1 : Nat)) (List.drop (1 : Nat) (List.map IV.str (Prod.snd (Prod.snd x))))))) =
 some (TV.v (IV.vslice none (0 : Nat) (List.length (Prod.snd x_1)) (1 : Nat) (List.map IV.str (Prod.snd x_1)))) ∧
 some (TV.v (IV.int IntKind.i64 (Prod.fst (lkp rows (1 : Int) (nameS s))))) = some (TV.v (IV.int IntKind.i64 (Prod.fst (lkp rows (1 : Int) (nameS s))))) ∧
 some (TV.v (IV.bool (fN (Row.fm (rowOf (Prod.fst (lkp rows (1 : Int) (nameS s)))))))) = some (TV.v (IV.bool (fN (Row.fm (rowOf (Prod.fst (lkp rows (1 : Int) (nameS s)))))))) ∧
 some (TV.v (IV.ptr (0 : Nat) (0 : Nat))) = some (TV.v (IV.ptr (0 : Nat) (0 : Nat))) ∧
 some
 (TV.v
 (IV.vslice none (1 : Nat) (3 : Nat) (2 : Nat)
 [IV.bool (fA (Row.fm (rowOf (Prod.fst (lkp rows (1 : Int) (nameS s)))))), IV.ptr (0 : Nat) (1 : Nat),
 IV.bool (fB (Row.fm (rowOf (Prod.fst (lkp rows (1 : Int) (nameS s)))))), IV.ptr (0 : Nat) (2 : Nat),
 IV.bool (fC (Row.fm (rowOf (Prod.fst (lkp rows (1 : Int) (nameS s)))))), IV.ptr (0 : Nat) (3 : Nat)])) =
 some
 (TV.v
 (IV.vslice none (1 : Nat) (3 : Nat) (2 : Nat)
 [IV.bool (fA (Row.fm (rowOf (Prod.fst (lkp rows (1 : Int) (nameS s)))))), IV.ptr (0 : Nat) (1 : Nat),
 IV.bool (fB (Row.fm (rowOf (Prod.fst (lkp rows (1 : Int) (nameS s)))))), IV.ptr (0 : Nat) (2 : Nat),
 IV.bool (fC (Row.fm (rowOf (Prod.fst (lkp rows (1 : Int) (nameS s)))))), IV.ptr (0 : Nat) (3 : Nat)])) ∧
 some (TV.v (IV.int IntKind.i64 (3 : Int))) = some (TV.v (IV.int IntKind.i64 (3 : Int))) ∧
 some (TV.v (IV.int IntKind.i64 (3 : Int))) = some (TV.v (IV.int IntKind.i64 (1 : Int))) ∧
 some [IV.int IntKind.i64 (0 : Int), IV.int IntKind.i64 (0 : Int), IV.int IntKind.i64 (0 : Int), IV.int IntKind.i64 (0 : Int), IV.int IntKind.i64 (0 : Int)] =
 some [IV.int IntKind.i64 (0 : Int), IV.int IntKind.i64 (0 : Int), IV.int IntKind.i64 (0 : Int), IV.int IntKind.i64 (0 : Int), IV.int IntKind.i64 (0 : Int)] ∧
 Heap.mk
 (PT.node PT.nil
 (some
 (IObj.cells
 [IV.int IntKind.i64 (Prod.fst (lkp rows (1 : Int) (nameS s))), IV.int IntKind.i64 (Prod.fst x), IV.int IntKind.i64 (Prod.fst (Prod.snd x)),
 IV.int IntKind.i64 v, IV.int IntKind.i64 (0 : Int)]))
 PT.nil)
 (1 : Nat) =
 Heap.mk
 (PT.node PT.nil
 (some
 (IObj.cells
 [IV.int IntKind.i64 (Prod.fst (lkp rows (1 : Int) (nameS s))), IV.int IntKind.i64 (Prod.fst x_1), IV.int IntKind.i64 (0 : Int),
 IV.int IntKind.i64 (0 : Int), IV.int IntKind.i64 (0 : Int)]))
 PT.nil)
 (1 : Nat) ∧
 (Prod.snd (lkp rows (1 : Int) (nameS s)) = true ∧ PC (1 : Nat) s (Prod.fst (lkp rows (1 : Int) (nameS s))) (Prod.fst x_1) (0 : Int) (0 : Int) (Prod.snd x_1)) ∧
 (2 : Nat) < (1 : Nat)) ∨
 (∃ (x_1 : Int × Int × List (List UInt8)),
 some (TV.v (IV.str s)) = some (TV.v (IV.str s)) ∧
 some (TV.l (2 : Nat) (0 : Nat)) = some (TV.l (2 : Nat) (0 : Nat)) ∧
 some
 (TV.v
 (IV.vslice none ((0 : Nat) - (List.length (Prod.snd (Prod.snd x)) - Int.toNat (↑(List.length (Prod.snd (Prod.snd x))) : Int)) * (1 : Nat))
 (Int.toNat (↑(List.length (Prod.snd (Prod.snd x))) : Int) - (1 : Nat)) (1 : Nat)
 (List.take ((Int.toNat (↑(List.length (Prod.snd (Prod.snd x))) : Int) - (1 : Nat)) * (1 : Nat)) (List.drop (1 : Nat) (List.map IV.str (Prod.snd (Prod.snd x))))))) =
 some (TV.v (IV.vslice none (0 : Nat) (List.length (Prod.snd (Prod.snd x_1))) (1 : Nat) (List.map IV.str (Prod.snd (Prod.snd x_1))))) ∧
 some (TV.v (IV.int IntKind.i64 (Prod.fst (lkp rows (1 : Int) (nameS s))))) = some (TV.v (IV.int IntKind.i64 (Prod.fst (lkp rows (1 : Int) (nameS s))))) ∧
 some (TV.v (IV.bool (fN (Row.fm (rowOf (Prod.fst (lkp rows (1 : Int) (nameS s)))))))) =
 some (TV.v (IV.bool (fN (Row.fm (rowOf (Prod.fst (lkp rows (1 : Int) (nameS s)))))))) ∧
 some (TV.v (IV.ptr (0 : Nat) (0 : Nat))) = some (TV.v (IV.ptr (0 : Nat) (0 : Nat))) ∧
 some
 (TV.v
 (IV.vslice none (1 : Nat) (3 : Nat) (2 : Nat)
 [IV.bool (fA (Row.fm (rowOf (Prod.fst (lkp rows (1 : Int) (nameS s)))))), IV.ptr (0 : Nat) (1 : Nat),
 IV.bool (fB (Row.fm (rowOf (Prod.fst (lkp rows (1 : Int) (nameS s)))))), IV.ptr (0 : Nat) (2 : Nat),
 IV.bool (fC (Row.fm (rowOf (Prod.fst (lkp rows (1 : Int) (nameS s)))))), IV.ptr (0 : Nat) (3 : Nat)])) =
 some
 (TV.v
 (IV.vslice none (1 : Nat) (3 : Nat) (2 : Nat)
 [IV.bool (fA (Row.fm (rowOf (Prod.fst (lkp rows (1 : Int) (nameS s)))))), IV.ptr (0 : Nat) (1 : Nat),
 IV.bool (fB (Row.fm (rowOf (Prod.fst (lkp rows (1 : Int) (nameS s)))))), IV.ptr (0 : Nat) (2 : Nat),
 IV.bool (fC (Row.fm (rowOf (Prod.fst (lkp rows (1 : Int) (nameS s)))))), IV.ptr (0 : Nat) (3 : Nat)])) ∧
 some (TV.v (IV.int IntKind.i64 (3 : Int))) = some (TV.v (IV.int IntKind.i64 (3 : Int))) ∧
 some (TV.v (IV.int IntKind.i64 (3 : Int))) = some (TV.v (IV.int IntKind.i64 (2 : Int))) ∧
 some [IV.int IntKind.i64 (0 : Int), IV.int IntKind.i64 (0 : Int), IV.int IntKind.i64 (0 : Int), IV.int IntKind.i64 (0 : Int), IV.int IntKind.i64 (0 : Int)] =
 some [IV.int IntKind.i64 (0 : Int), IV.int IntKind.i64 (0 : Int), IV.int IntKind.i64 (0 : Int), IV.int IntKind.i64 (0 : Int), IV.int IntKind.i64 (0 : Int)] ∧
 Heap.mk
 (PT.node PT.nil
 (some
 (IObj.cells
 [IV.int IntKind.i64 (Prod.fst (lkp rows (1 : Int) (nameS s))), IV.int IntKind.i64 (Prod.fst x), IV.int IntKind.i64 (Prod.fst (Prod.snd x)),
 IV.int IntKind.i64 v, IV.int IntKind.i64 (0 : Int)]))
 PT.nil)
 (1 : Nat) =
 Heap.mk
 (PT.node PT.nil
 (some
 (IObj.cells
 [IV.int IntKind.i64 (Prod.fst (lkp rows (1 : Int) (nameS s))), IV.int IntKind.i64 (Prod.fst x_1), IV.int IntKind.i64 (Prod.fst (Prod.snd x_1)),
 IV.int IntKind.i64 (0 : Int), IV.int IntKind.i64 (0 : Int)]))
 PT.nil)
 (1 : Nat) ∧
 (Prod.snd (lkp rows (1 : Int) (nameS s)) = true ∧
 PC (2 : Nat) s (Prod.fst (lkp rows (1 : Int) (nameS s))) (Prod.fst x_1) (Prod.fst (Prod.snd x_1)) (0 : Int) (Prod.snd (Prod.snd x_1))) ∧
 (1 : Nat) < (1 : Nat)) ∨
 ∃ (x_1 : Int × Int × Int × List (List UInt8)),
 some (TV.v (IV.str s)) = some (TV.v (IV.str s)) ∧
 some (TV.l (2 : Nat) (0 : Nat)) = some (TV.l (2 : Nat) (0 : Nat)) ∧
 some
 (TV.v
 (IV.vslice none ((0 : Nat) - (List.length (Prod.snd (Prod.snd x)) - Int.toNat (↑(List.length (Prod.snd (Prod.snd x))) : Int)) * (1 : Nat))
 (Int.toNat (↑(List.length (Prod.snd (Prod.snd x))) : Int) - (1 : Nat)) (1 : Nat)
 (List.take ((Int.toNat (↑(List.length (Prod.snd (Prod.snd x))) : Int) - (1 : Nat)) * (1 : Nat)) (List.drop (1 : Nat) (List.map IV.str (Prod.snd (Prod.snd x))))))) =
 some (TV.v (IV.vslice none (0 : Nat) (List.length (Prod.snd (Prod.snd (Prod.snd x_1)))) (1 : Nat) (List.map IV.str (Prod.snd (Prod.snd (Prod.snd x_1)))))) ∧
 some (TV.v (IV.int IntKind.i64 (Prod.fst (lkp rows (1 : Int) (nameS s))))) = some (TV.v (IV.int IntKind.i64 (Prod.fst (lkp rows (1 : Int) (nameS s))))) ∧
 some (TV.v (IV.bool (fN (Row.fm (rowOf (Prod.fst (lkp rows (1 : Int) (nameS s)))))))) =
 some (TV.v (IV.bool (fN (Row.fm (rowOf (Prod.fst (lkp rows (1 : Int) (nameS s)))))))) ∧
 some (TV.v (IV.ptr (0 : Nat) (0 : Nat))) = some (TV.v (IV.ptr (0 : Nat) (0 : Nat))) ∧
 some
 (TV.v
 (IV.vslice none (1 : Nat) (3 : Nat) (2 : Nat)
 [IV.bool (fA (Row.fm (rowOf (Prod.fst (lkp rows (1 : Int) (nameS s)))))), IV.ptr (0 : Nat) (1 : Nat),
 IV.bool (fB (Row.fm (rowOf (Prod.fst (lkp rows (1 : Int) (nameS s)))))), IV.ptr (0 : Nat) (2 : Nat),
 IV.bool (fC (Row.fm (rowOf (Prod.fst (lkp rows (1 : Int) (nameS s)))))), IV.ptr (0 : Nat) (3 : Nat)])) =
 some
 (TV.v
 (IV.vslice none (1 : Nat) (3 : Nat) (2 : Nat)
 [IV.bool (fA (Row.fm (rowOf (Prod.fst (lkp rows (1 : Int) (nameS s)))))), IV.ptr (0 : Nat) (1 : Nat),
 IV.bool (fB (Row.fm (rowOf (Prod.fst (lkp rows (1 : Int) (nameS s)))))), IV.ptr (0 : Nat) (2 : Nat),
 IV.bool (fC (Row.fm (rowOf (Prod.fst (lkp rows (1 : Int) (nameS s)))))), IV.ptr (0 : Nat) (3 : Nat)])) ∧
 some (TV.v (IV.int IntKind.i64 (3 : Int))) = some (TV.v (IV.int IntKind.i64 (3 : Int))) ∧
 some (TV.v (IV.int IntKind.i64 (3 : Int))) = some (TV.v (IV.int IntKind.i64 (3 : Int))) ∧
 some [IV.int IntKind.i64 (0 : Int), IV.int IntKind.i64 (0 : Int), IV.int IntKind.i64 (0 : Int), IV.int IntKind.i64 (0 : Int), IV.int IntKind.i64 (0 : Int)] =
 some [IV.int IntKind.i64 (0 : Int), IV.int IntKind.i64 (0 : Int), IV.int IntKind.i64 (0 : Int), IV.int IntKind.i64 (0 : Int), IV.int IntKind.i64 (0 : Int)] ∧
 Heap.mk
 (PT.node PT.nil
 (some
 (IObj.cells
 [IV.int IntKind.i64 (Prod.fst (lkp rows (1 : Int) (nameS s))), IV.int IntKind.i64 (Prod.fst x), IV.int IntKind.i64 (Prod.fst (Prod.snd x)),
 IV.int IntKind.i64 v, IV.int IntKind.i64 (0 : Int)]))
 PT.nil)
 (1 : Nat) =
 Heap.mk
 (PT.node PT.nil
 (some
 (IObj.cells
 [IV.int IntKind.i64 (Prod.fst (lkp rows (1 : Int) (nameS s))), IV.int IntKind.i64 (Prod.fst x_1), IV.int IntKind.i64 (Prod.fst (Prod.snd x_1)),
 IV.int IntKind.i64 (Prod.fst (Prod.snd (Prod.snd x_1))), IV.int IntKind.i64 (0 : Int)]))
 PT.nil)
 (1 : Nat) ∧
 (Prod.snd (lkp rows (1 : Int) (nameS s)) = true ∧
 PC (3 : Nat) s (Prod.fst (lkp rows (1 : Int) (nameS s))) (Prod.fst x_1) (Prod.fst (Prod.snd x_1)) (Prod.fst (Prod.snd (Prod.snd x_1)))
 (Prod.snd (Prod.snd (Prod.snd x_1)))) ∧
 (0 : Nat) < (1 : Nat)))))))
 (needS (true && (decide ((1 : Int) ≤ (↑(List.length (Prod.snd (Prod.snd x))) : Int)) && decide ((↑(List.length (Prod.snd (Prod.snd x))) : Int) ≤ (↑(List.length (Prod.snd (Prod.snd x))) : Int))))
 ((∃ (x_1 : List (List UInt8)),
 some (TV.v (IV.str s)) = some (TV.v (IV.str s)) ∧
 some (TV.l (2 : Nat) (0 : Nat)) = some (TV.l (2 : Nat) (0 : Nat)) ∧
 some
 (TV.v
 (IV.vslice none ((0 : Nat) - (List.length (Prod.snd (Prod.snd x)) - Int.toNat (↑(List.length (Prod.snd (Prod.snd x))) : Int)) * (1 : Nat))
 (Int.toNat (↑(List.length (Prod.snd (Prod.snd x))) : Int) - (1 : Nat)) (1 : Nat)
 (List.take ((Int.toNat (↑(List.length (Prod.snd (Prod.snd x))) : Int) - (1 : Nat)) * (1 : Nat)) (List.drop (1 : Nat) (List.map IV.str (Prod.snd (Prod.snd x))))))) =
 some (TV.v (IV.vslice none (0 : Nat) (List.length x_1) (1 : Nat) (List.map IV.str x_1))) ∧
 some (TV.v (IV.int IntKind.i64 (Prod.fst (lkp rows (1 : Int) (nameS s))))) = some (TV.v (IV.int IntKind.i64 (Prod.fst (lkp rows (1 : Int) (nameS s))))) ∧
 some (TV.v (IV.bool (fN (Row.fm (rowOf (Prod.fst (lkp rows (1 : Int) (nameS s)))))))) = some (TV.v (IV.bool (fN (Row.fm (rowOf (Prod.fst (lkp rows (1 : Int) (nameS s)))))))) ∧
 some (TV.v (IV.ptr (0 : Nat) (0 : Nat))) = some (TV.v (IV.ptr (0 : Nat) (0 : Nat))) ∧
 some
 (TV.v
 (IV.vslice none (1 : Nat) (3 : Nat) (2 : Nat)
 [IV.bool (fA (Row.fm (rowOf (Prod.fst (lkp rows (1 : Int) (nameS s)))))), IV.ptr (0 : Nat) (1 : Nat), IV.bool (fB (Row.fm (rowOf (Prod.fst (lkp rows (1 : Int) (nameS s)))))),
 IV.ptr (0 : Nat) (2 : Nat), IV.bool (fC (Row.fm (rowOf (Prod.fst (lkp rows (1 : Int) (nameS s)))))), IV.ptr (0 : Nat) (3 : Nat)])) =
 some
 (TV.v
 (IV.vslice none (1 : Nat) (3 : Nat) (2 : Nat)
 [IV.bool (fA (Row.fm (rowOf (Prod.fst (lkp rows (1 : Int) (nameS s)))))), IV.ptr (0 : Nat) (1 : Nat), IV.bool (fB (Row.fm (rowOf (Prod.fst (lkp rows (1 : Int) (nameS s)))))),
 IV.ptr (0 : Nat) (2 : Nat), IV.bool (fC (Row.fm (rowOf (Prod.fst (lkp rows (1 : Int) (nameS s)))))), IV.ptr (0 : Nat) (3 : Nat)])) ∧
 some (TV.v (IV.int IntKind.i64 (3 : Int))) = some (TV.v (IV.int IntKind.i64 (3 : Int))) ∧
 some (TV.v (IV.int IntKind.i64 (3 : Int))) = some (TV.v (IV.int IntKind.i64 (0 : Int))) ∧
 some [IV.int IntKind.i64 (0 : Int), IV.int IntKind.i64 (0 : Int), IV.int IntKind.i64 (0 : Int), IV.int IntKind.i64 (0 : Int), IV.int IntKind.i64 (0 : Int)] =
 some [IV.int IntKind.i64 (0 : Int), IV.int IntKind.i64 (0 : Int), IV.int IntKind.i64 (0 : Int), IV.int IntKind.i64 (0 : Int), IV.int IntKind.i64 (0 : Int)] ∧
 Heap.mk
 (PT.node PT.nil
 (some
 (IObj.cells
 [IV.int IntKind.i64 (Prod.fst (lkp rows (1 : Int) (nameS s))), IV.int IntKind.i64 (Prod.fst x), IV.int IntKind.i64 (Prod.fst (Prod.snd x)), IV.int IntKind.i64 v,
 IV.int IntKind.i64 (0 : Int)]))
 PT.nil)
 (1 : Nat) =
 Heap.mk
 (PT.node PT.nil
 (some
 (IObj.cells
 [IV.int IntKind.i64 (Prod.fst (lkp rows (1 : Int) (nameS s))), IV.int IntKind.i64 (0 : Int), IV.int IntKind.i64 (0 : Int), IV.int IntKind.i64 (0 : Int),
 IV.int IntKind.i64 (0 : Int)]))
 PT.nil)
 (1 : Nat) ∧
 (Prod.snd (lkp rows (1 : Int) (nameS s)) = true ∧ PC (0 : Nat) s (Prod.fst (lkp rows (1 : Int) (nameS s))) (0 : Int) (0 : Int) (0 : Int) x_1) ∧ (3 : Nat) < (1 : Nat)) ∨
 (∃ (x_1 : Int × List (List UInt8)),
 some (TV.v (IV.str s)) = some (TV.v (IV.str s)) ∧
 some (TV.l (2 : Nat) (0 : Nat)) = some (TV.l (2 : Nat) (0 : Nat)) ∧
 some
 (TV.v
 (IV.vslice none ((0 : Nat) - (List.length (Prod.snd (Prod.snd x)) - Int.toNat (↑(List.length (Prod.snd (Prod.snd x))) : Int)) * (1 : Nat))
 (Int.toNat (↑(List.length (Prod.snd (Prod.snd x))) : Int) - (1 : Nat)) (1 : Nat)
 (List.take ((Int.toNat (↑(List.length (Prod.snd (Prod.snd x))) : Int) - (1 : Nat)) * (1 : Nat)) (List.drop (1 : Nat) (List.map IV.str (Prod.snd (Prod.snd x))))))) =
 some (TV.v (IV.vslice none (0 : Nat) (List.length (Prod.snd x_1)) (1 : Nat) (List.map IV.str (Prod.snd x_1)))) ∧
 some (TV.v (IV.int IntKind.i64 (Prod.fst (lkp rows (1 : Int) (nameS s))))) = some (TV.v (IV.int IntKind.i64 (Prod.fst (lkp rows (1 : Int) (nameS s))))) ∧
 some (TV.v (IV.bool (fN (Row.fm (rowOf (Prod.fst (lkp rows (1 : Int) (nameS s)))))))) = some (TV.v (IV.bool (fN (Row.fm (rowOf (Prod.fst (lkp rows (1 : Int) (nameS s)))))))) ∧
 some (TV.v (IV.ptr (0 : Nat) (0 : Nat))) = some (TV.v (IV.ptr (0 : Nat) (0 : Nat))) ∧
 some
 (TV.v
 (IV.vslice none (1 : Nat) (3 : Nat) (2 : Nat)
 [IV.bool (fA (Row.fm (rowOf (Prod.fst (lkp rows (1 : Int) (nameS s)))))), IV.ptr (0 : Nat) (1 : Nat), IV.bool (fB (Row.fm (rowOf (Prod.fst (lkp rows (1 : Int) (nameS s)))))),
 IV.ptr (0 : Nat) (2 : Nat), IV.bool (fC (Row.fm (rowOf (Prod.fst (lkp rows (1 : Int) (nameS s)))))), IV.ptr (0 : Nat) (3 : Nat)])) =
 some
 (TV.v
 (IV.vslice none (1 : Nat) (3 : Nat) (2 : Nat)
 [IV.bool (fA (Row.fm (rowOf (Prod.fst (lkp rows (1 : Int) (nameS s)))))), IV.ptr (0 : Nat) (1 : Nat), IV.bool (fB (Row.fm (rowOf (Prod.fst (lkp rows (1 : Int) (nameS s)))))),
 IV.ptr (0 : Nat) (2 : Nat), IV.bool (fC (Row.fm (rowOf (Prod.fst (lkp rows (1 : Int) (nameS s)))))), IV.ptr (0 : Nat) (3 : Nat)])) ∧
 some (TV.v (IV.int IntKind.i64 (3 : Int))) = some (TV.v (IV.int IntKind.i64 (3 : Int))) ∧
 some (TV.v (IV.int IntKind.i64 (3 : Int))) = some (TV.v (IV.int IntKind.i64 (1 : Int))) ∧
 some [IV.int IntKind.i64 (0 : Int), IV.int IntKind.i64 (0 : Int), IV.int IntKind.i64 (0 : Int), IV.int IntKind.i64 (0 : Int), IV.int IntKind.i64 (0 : Int)] =
 some [IV.int IntKind.i64 (0 : Int), IV.int IntKind.i64 (0 : Int), IV.int IntKind.i64 (0 : Int), IV.int IntKind.i64 (0 : Int), IV.int IntKind.i64 (0 : Int)] ∧
 Heap.mk
 (PT.node PT.nil
 (some
 (IObj.cells
 [IV.int IntKind.i64 (Prod.fst (lkp rows (1 : Int) (nameS s))), IV.int IntKind.i64 (Prod.fst x), IV.int IntKind.i64 (Prod.fst (Prod.snd x)), IV.int IntKind.i64 v,
 IV.int IntKind.i64 (0 : Int)]))
 PT.nil)
 (1 : Nat) =
 Heap.mk
 (PT.node PT.nil
 (some
 (IObj.cells
 [IV.int IntKind.i64 (Prod.fst (lkp rows (1 : Int) (nameS s))), IV.int IntKind.i64 (Prod.fst x_1), IV.int IntKind.i64 (0 : Int), IV.int IntKind.i64 (0 : Int),
 IV.int IntKind.i64 (0 : Int)]))
 PT.nil)
 (1 : Nat) ∧
 (Prod.snd (lkp rows (1 : Int) (nameS s)) = true ∧ PC (1 : Nat) s (Prod.fst (lkp rows (1 : Int) (nameS s))) (Prod.fst x_1) (0 : Int) (0 : Int) (Prod.snd x_1)) ∧
 (2 : Nat) < (1 : Nat)) ∨
 (∃ (x_1 : Int × Int × List (List UInt8)),
 some (TV.v (IV.str s)) = some (TV.v (IV.str s)) ∧
 some (TV.l (2 : Nat) (0 : Nat)) = some (TV.l (2 : Nat) (0 : Nat)) ∧
 some
 (TV.v
 (IV.vslice none ((0 : Nat) - (List.length (Prod.snd (Prod.snd x)) - Int.toNat (↑(List.length (Prod.snd (Prod.snd x))) : Int)) * (1 : Nat))
 (Int.toNat (↑(List.length (Prod.snd (Prod.snd x))) : Int) - (1 : Nat)) (1 : Nat)
 (List.take ((Int.toNat (↑(List.length (Prod.snd (Prod.snd x))) : Int) - (1 : Nat)) * (1 : Nat)) (List.drop (1 : Nat) (List.map IV.str (Prod.snd (Prod.snd x))))))) =
 some (TV.v (IV.vslice none (0 : Nat) (List.length (Prod.snd (Prod.snd x_1))) (1 : Nat) (List.map IV.str (Prod.snd (Prod.snd x_1))))) ∧
 some (TV.v (IV.int IntKind.i64 (Prod.fst (lkp rows (1 : Int) (nameS s))))) = some (TV.v (IV.int IntKind.i64 (Prod.fst (lkp rows (1 : Int) (nameS s))))) ∧
 some (TV.v (IV.bool (fN (Row.fm (rowOf (Prod.fst (lkp rows (1 : Int) (nameS s)))))))) = some (TV.v (IV.bool (fN (Row.fm (rowOf (Prod.fst (lkp rows (1 : Int) (nameS s)))))))) ∧
 some (TV.v (IV.ptr (0 : Nat) (0 : Nat))) = some (TV.v (IV.ptr (0 : Nat) (0 : Nat))) ∧
 some
 (TV.v
 (IV.vslice none (1 : Nat) (3 : Nat) (2 : Nat)
 [IV.bool (fA (Row.fm (rowOf (Prod.fst (lkp rows (1 : Int) (nameS s)))))), IV.ptr (0 : Nat) (1 : Nat), IV.bool (fB (Row.fm (rowOf (Prod.fst (lkp rows (1 : Int) (nameS s)))))),
 IV.ptr (0 : Nat) (2 : Nat), IV.bool (fC (Row.fm (rowOf (Prod.fst (lkp rows (1 : Int) (nameS s)))))), IV.ptr (0 : Nat) (3 : Nat)])) =
 some
 (TV.v
 (IV.vslice none (1 : Nat) (3 : Nat) (2 : Nat)
 [IV.bool (fA (Row.fm (rowOf (Prod.fst (lkp rows (1 : Int) (nameS s)))))), IV.ptr (0 : Nat) (1 : Nat), IV.bool (fB (Row.fm (rowOf (Prod.fst (lkp rows (1 : Int) (nameS s)))))),
 IV.ptr (0 : Nat) (2 : Nat), IV.bool (fC (Row.fm (rowOf (Prod.fst (lkp rows (1 : Int) (nameS s)))))), IV.ptr (0 : Nat) (3 : Nat)])) ∧
 some (TV.v (IV.int IntKind.i64 (3 : Int))) = some (TV.v (IV.int IntKind.i64 (3 : Int))) ∧
 some (TV.v (IV.int IntKind.i64 (3 : Int))) = some (TV.v (IV.int IntKind.i64 (2 : Int))) ∧
 some [IV.int IntKind.i64 (0 : Int), IV.int IntKind.i64 (0 : Int), IV.int IntKind.i64 (0 : Int), IV.int IntKind.i64 (0 : Int), IV.int IntKind.i64 (0 : Int)] =
 some [IV.int IntKind.i64 (0 : Int), IV.int IntKind.i64 (0 : Int), IV.int IntKind.i64 (0 : Int), IV.int IntKind.i64 (0 : Int), IV.int IntKind.i64 (0 : Int)] ∧
 Heap.mk
 (PT.node PT.nil
 (some
 (IObj.cells
 [IV.int IntKind.i64 (Prod.fst (lkp rows (1 : Int) (nameS s))), IV.int IntKind.i64 (Prod.fst x), IV.int IntKind.i64 (Prod.fst (Prod.snd x)), IV.int IntKind.i64 v,
 IV.int IntKind.i64 (0 : Int)]))
 PT.nil)
 (1 : Nat) =
 Heap.mk
 (PT.node PT.nil
 (some
 (IObj.cells
 [IV.int IntKind.i64 (Prod.fst (lkp rows (1 : Int) (nameS s))), IV.int IntKind.i64 (Prod.fst x_1), IV.int IntKind.i64 (Prod.fst (Prod.snd x_1)),
 IV.int IntKind.i64 (0 : Int), IV.int IntKind.i64 (0 : Int)]))
 PT.nil)
 (1 : Nat) ∧
 (Prod.snd (lkp rows (1 : Int) (nameS s)) = true ∧
 PC (2 : Nat) s (Prod.fst (lkp rows (1 : Int) (nameS s))) (Prod.fst x_1) (Prod.fst (Prod.snd x_1)) (0 : Int) (Prod.snd (Prod.snd x_1))) ∧
 (1 : Nat) < (1 : Nat)) ∨
 ∃ (x_1 : Int × Int × Int × List (List UInt8)),
 some (TV.v (IV.str s)) = some (TV.v (IV.str s)) ∧
 some (TV.l (2 : Nat) (0 : Nat)) = some (TV.l (2 : Nat) (0 : Nat)) ∧
 some
 (TV.v
 (IV.vslice none ((0 : Nat) - (List.length (Prod.snd (Prod.snd x)) - Int.toNat (↑(List.length (Prod.snd (Prod.snd x))) : Int)) * (1 : Nat))
 (Int.toNat (↑(List.length (Prod.snd (Prod.snd x))) : Int) - (1 : Nat)) (1 : Nat)
 (List.take ((Int.toNat (↑(List.length (Prod.snd (Prod.snd x))) : Int) - (1 : Nat)) * (1 : Nat)) (List.drop (1 : Nat) (List.map IV.str (Prod.snd (Prod.snd x))))))) =
 some (TV.v (IV.vslice none (0 : Nat) (List.length (Prod.snd (Prod.snd (Prod.snd x_1)))) (1 : Nat) (List.map IV.str (Prod.snd (Prod.snd (Prod.snd x_1)))))) ∧
 some (TV.v (IV.int IntKind.i64 (Prod.fst (lkp rows (1 : Int) (nameS s))))) = some (TV.v (IV.int IntKind.i64 (Prod.fst (lkp rows (1 : Int) (nameS s))))) ∧
 some (TV.v (IV.bool (fN (Row.fm (rowOf (Prod.fst (lkp rows (1 : Int) (nameS s)))))))) = some (TV.v (IV.bool (fN (Row.fm (rowOf (Prod.fst (lkp rows (1 : Int) (nameS s)))))))) ∧
 some (TV.v (IV.ptr (0 : Nat) (0 : Nat))) = some (TV.v (IV.ptr (0 : Nat) (0 : Nat))) ∧
 some
 (TV.v
 (IV.vslice none (1 : Nat) (3 : Nat) (2 : Nat)
 [IV.bool (fA (Row.fm (rowOf (Prod.fst (lkp rows (1 : Int) (nameS s)))))), IV.ptr (0 : Nat) (1 : Nat), IV.bool (fB (Row.fm (rowOf (Prod.fst (lkp rows (1 : Int) (nameS s)))))),
 IV.ptr (0 : Nat) (2 : Nat), IV.bool (fC (Row.fm (rowOf (Prod.fst (lkp rows (1 : Int) (nameS s)))))), IV.ptr (0 : Nat) (3 : Nat)])) =
 some
 (TV.v
 (IV.vslice none (1 : Nat) (3 : Nat) (2 : Nat)
 [IV.bool (fA (Row.fm (rowOf (Prod.fst (lkp rows (1 : Int) (nameS s)))))), IV.ptr (0 : Nat) (1 : Nat), IV.bool (fB (Row.fm (rowOf (Prod.fst (lkp rows (1 : Int) (nameS s)))))),
 IV.ptr (0 : Nat) (2 : Nat), IV.bool (fC (Row.fm (rowOf (Prod.fst (lkp rows (1 : Int) (nameS s)))))), IV.ptr (0 : Nat) (3 : Nat)])) ∧
 some (TV.v (IV.int IntKind.i64 (3 : Int))) = some (TV.v (IV.int IntKind.i64 (3 : Int))) ∧
 some (TV.v (IV.int IntKind.i64 (3 : Int))) = some (TV.v (IV.int IntKind.i64 (3 : Int))) ∧
 some [IV.int IntKind.i64 (0 : Int), IV.int IntKind.i64 (0 : Int), IV.int IntKind.i64 (0 : Int), IV.int IntKind.i64 (0 : Int), IV.int IntKind.i64 (0 : Int)] =
 some [IV.int IntKind.i64 (0 : Int), IV.int IntKind.i64 (0 : Int), IV.int IntKind.i64 (0 : Int), IV.int IntKind.i64 (0 : Int), IV.int IntKind.i64 (0 : Int)] ∧
 Heap.mk
 (PT.node PT.nil
 (some
 (IObj.cells
 [IV.int IntKind.i64 (Prod.fst (lkp rows (1 : Int) (nameS s))), IV.int IntKind.i64 (Prod.fst x), IV.int IntKind.i64 (Prod.fst (Prod.snd x)), IV.int IntKind.i64 v,
 IV.int IntKind.i64 (0 : Int)]))
 PT.nil)
 (1 : Nat) =
 Heap.mk
 (PT.node PT.nil
 (some
 (IObj.cells
 [IV.int IntKind.i64 (Prod.fst (lkp rows (1 : Int) (nameS s))), IV.int IntKind.i64 (Prod.fst x_1), IV.int IntKind.i64 (Prod.fst (Prod.snd x_1)),
 IV.int IntKind.i64 (Prod.fst (Prod.snd (Prod.snd x_1))), IV.int IntKind.i64 (0 : Int)]))
 PT.nil)
 (1 : Nat) ∧
 (Prod.snd (lkp rows (1 : Int) (nameS s)) = true ∧
 PC (3 : Nat) s (Prod.fst (lkp rows (1 : Int) (nameS s))) (Prod.fst x_1) (Prod.fst (Prod.snd x_1)) (Prod.fst (Prod.snd (Prod.snd x_1)))
 (Prod.snd (Prod.snd (Prod.snd x_1)))) ∧
 (0 : Nat) < (1 : Nat))))))) ∧
 ∀ (x : Int × Int × Int × List (List UInt8)) (b : FF),
 Prod.snd (lkp rows (1 : Int) (nameS s)) = true ∧ PC (3 : Nat) s (Prod.fst (lkp rows (1 : Int) (nameS s))) (Prod.fst x) (Prod.fst (Prod.snd x)) (Prod.fst (Prod.snd (Prod.snd x))) (Prod.snd (Prod.snd (Prod.snd x))) →
 brS (fN (Row.fm (rowOf (Prod.fst (lkp rows (1 : Int) (nameS s))))))
 (brS ((↑(List.length (Prod.snd (Prod.snd (Prod.snd x)))) : Int) == (0 : Int))
 (Q (IV.tuple [IV.agg [IV.int IntKind.i64 (0 : Int), IV.int IntKind.i64 (0 : Int), IV.int IntKind.i64 (0 : Int), IV.int IntKind.i64 (0 : Int), IV.int IntKind.i64 (0 : Int)], IV.bool false]) h)
 (needS (true && decide ((0 : Int) < (↑(List.length (Prod.snd (Prod.snd (Prod.snd x)))) : Int)))
 (ldSS (List.map IV.str (Prod.snd (Prod.snd (Prod.snd x)))) (0 : Nat) fun (s6 : List UInt8) =>
 ∀ (v : Int) (b : Bool),
 (-9223372036854775808 : Int) ≤ v ∧ v ≤ (9223372036854775807 : Int) →
 (∀ (n : Int), (-9223372036854775808 : Int) ≤ n ∧ n ≤ (9223372036854775807 : Int) → s6 = txt n → v = n ∧ b = true) →
 brS (!b) (Q (IV.tuple [IV.agg [IV.int IntKind.i64 (0 : Int), IV.int IntKind.i64 (0 : Int), IV.int IntKind.i64 (0 : Int), IV.int IntKind.i64 (0 : Int), IV.int IntKind.i64 (0 : Int)], IV.bool false]) h)
 (needS
 (true &&
 (decide ((1 : Int) ≤ (↑(List.length (Prod.snd (Prod.snd (Prod.snd x)))) : Int)) &&
 decide ((↑(List.length (Prod.snd (Prod.snd (Prod.snd x)))) : Int) ≤ (↑(List.length (Prod.snd (Prod.snd (Prod.snd x)))) : Int))))
 (brS (decide ((↑(Int.toNat (↑(List.length (Prod.snd (Prod.snd (Prod.snd x)))) : Int) - (1 : Nat)) : Int) > (0 : Int)))
 (Q (IV.tuple [IV.agg [IV.int IntKind.i64 (0 : Int), IV.int IntKind.i64 (0 : Int), IV.int IntKind.i64 (0 : Int), IV.int IntKind.i64 (0 : Int), IV.int IntKind.i64 (0 : Int)], IV.bool false]) h)
 (brS (!validI (Prod.fst (lkp rows (1 : Int) (nameS s))) (Prod.fst x) (Prod.fst (Prod.snd x)) (Prod.fst (Prod.snd (Prod.snd x))) v)
 (Q (IV.tuple [IV.agg [IV.int IntKind.i64 (0 : Int), IV.int IntKind.i64 (0 : Int), IV.int IntKind.i64 (0 : Int), IV.int IntKind.i64 (0 : Int), IV.int IntKind.i64 (0 : Int)], IV.bool false]) h)
 (brS (!fmtS (In.mk (Prod.fst (lkp rows (1 : Int) (nameS s))) (Prod.fst x) (Prod.fst (Prod.snd x)) (Prod.fst (Prod.snd (Prod.snd x))) v) == s)
 (Q (IV.tuple [IV.agg [IV.int IntKind.i64 (0 : Int), IV.int IntKind.i64 (0 : Int), IV.int IntKind.i64 (0 : Int), IV.int IntKind.i64 (0 : Int), IV.int IntKind.i64 (0 : Int)], IV.bool false]) h)
 (Q
 (IV.tuple
 [IV.agg
 [IV.int IntKind.i64 (Prod.fst (lkp rows (1 : Int) (nameS s))), IV.int IntKind.i64 (Prod.fst x), IV.int IntKind.i64 (Prod.fst (Prod.snd x)),
 IV.int IntKind.i64 (Prod.fst (Prod.snd (Prod.snd x))), IV.int IntKind.i64 v],
 IV.bool true])
 h))))))))
 (brS (decide ((↑(List.length (Prod.snd (Prod.snd (Prod.snd x)))) : Int) > (0 : Int)))
 (Q (IV.tuple [IV.agg [IV.int IntKind.i64 (0 : Int), IV.int IntKind.i64 (0 : Int), IV.int IntKind.i64 (0 : Int), IV.int IntKind.i64 (0 : Int), IV.int IntKind.i64 (0 : Int)], IV.bool false]) h)
 (brS (!validI (Prod.fst (lkp rows (1 : Int) (nameS s))) (Prod.fst x) (Prod.fst (Prod.snd x)) (Prod.fst (Prod.snd (Prod.snd x))) (0 : Int))
 (Q (IV.tuple [IV.agg [IV.int IntKind.i64 (0 : Int), IV.int IntKind.i64 (0 : Int), IV.int IntKind.i64 (0 : Int), IV.int IntKind.i64 (0 : Int), IV.int IntKind.i64 (0 : Int)], IV.bool false]) h)
 (brS (!fmtS (In.mk (Prod.fst (lkp rows (1 : Int) (nameS s))) (Prod.fst x) (Prod.fst (Prod.snd x)) (Prod.fst (Prod.snd (Prod.snd x))) (0 : Int)) == s)
 (Q (IV.tuple [IV.agg [IV.int IntKind.i64 (0 : Int), IV.int IntKind.i64 (0 : Int), IV.int IntKind.i64 (0 : Int), IV.int IntKind.i64 (0 : Int), IV.int IntKind.i64 (0 : Int)], IV.bool false]) h)
 (Q
 (IV.tuple
 [IV.agg
 [IV.int IntKind.i64 (Prod.fst (lkp rows (1 : Int) (nameS s))), IV.int IntKind.i64 (Prod.fst x), IV.int IntKind.i64 (Prod.fst (Prod.snd x)), IV.int IntKind.i64 (Prod.fst (Prod.snd (Prod.snd x))),
 IV.int IntKind.i64 (0 : Int)],
 IV.bool true])
 h)))))) := by kernel_rfl
set_option maxHeartbeats 4000000 in
theorem sParse : ∀ xs h Q, kParse xs h Q → CallW env 10 xs h Q := by
  intro xs h Q hk
  unfold kParse at hk
  split at hk
  · rename_i s
    refine dF_sound (okFormat) (mp_eq (vParse s h Q) ?_)
    obtain ⟨hl, hk⟩ := hk
    have no : (∀ i, vIn i = true → fmtS i ≠ s) → Q (IV.tuple [IV.agg [IV.int IntKind.i64 0, IV.int IntKind.i64 0, IV.int IntKind.i64 0, IV.int IntKind.i64 0, IV.int IntKind.i64 0], IV.bool false]) h := fun hn => hk (zeroIn, false) (Rs_no hn)
    have yes : ∀ i : In, vIn i = true → fmtS i = s → Q (IV.tuple [IV.agg [IV.int IntKind.i64 i.op, IV.int IntKind.i64 i.a, IV.int IntKind.i64 i.b, IV.int IntKind.i64 i.c, IV.int IntKind.i64 i.n], IV.bool true]) h := fun i hi e => hk (i, true) (.inl ⟨rfl, hi, e⟩)
    refine ⟨hl, brS_intro (fun cc => no (lk_no (by simpa using cc))) (fun cc => ?_)⟩
    have hok : (lkp rows 1 (nameS s)).2 = true := by simpa using cc
    have h0 := PC_start s 0 0 0
    clear cc hk
    simp only [fm_eq]
    generalize (lkp rows 1 (nameS s)).1 = op at *
    refine ⟨.inl ⟨pcsS s, (by first | rfl | trivial), (by first | rfl | trivial), (by first | rfl | trivial), (by first | rfl | trivial), (by first | rfl | trivial), (by first | rfl | trivial), (by first | rfl | trivial), (by first | rfl | trivial), (by first | rfl | trivial), (by first | rfl | trivial), (by first | rfl | trivial), ⟨hok, h0⟩, trivial⟩, fun x _ hx => ?_, fun x _ hx => ?_, fun x _ hx => ?_, fun x _ hx => ?_⟩
    · obtain ⟨_, hp⟩ := hx
      refine brS_intro (fun cf => ?_) (fun cf => ?_)
      · have cf2 : fA (fmI op) = false := by simpa using cf
        exact .inr (.inl ⟨(0, x), (by first | rfl | trivial), (by first | rfl | trivial), (by first | rfl | trivial), (by first | rfl | trivial), (by first | rfl | trivial), (by first | rfl | trivial), (by first | rfl | trivial), (by first | rfl | trivial), (by first | rfl | trivial), (by first | rfl | trivial), (by first | rfl | trivial), ⟨hok, PC_skipA hp cf2⟩, by decide⟩)
      · have cf2 : fA (fmI op) = true := by simpa using cf
        cases x with
        | nil => exact brS_intro (fun _ => no (PC_nilA hp cf2)) (fun q => absurd q (by simp))
        | cons y r =>
          refine brS_intro (fun q => absurd q (by simp <;> omega)) (fun _ => needS_intro (by simp <;> omega) (ldSS_c fun v _ hv => brS_intro (fun c6 => ?_) (fun c6 => needS_intro (by simp <;> omega) (.inr (.inl ⟨(v, r), (by first | rfl | trivial), (by first | rfl | trivial), congrArg some (tailS y r), (by first | rfl | trivial), (by first | rfl | trivial), (by first | rfl | trivial), (by first | rfl | trivial), (by first | rfl | trivial), (by first | rfl | trivial), (by first | rfl | trivial), (by first | rfl | trivial), ⟨hok, PC_regA hp cf2 (by simpa using c6) hv⟩, by decide⟩)))))
          refine needS_intro (by simp <;> omega) (ldSS_c fun w ok _ hw => ?_)
          have hc := PC_call hp cf2 (by simpa using c6) hw
          exact brS_intro (fun q => no fun i hi e => by rw [(hc.2 i hi e).1] at q; cases q) (fun _ => brS_intro (fun q => no fun i hi e => by have := (hc.2 i hi e).2; rw [decide_eq_true_eq] at q; omega) (fun _ => brS_intro (fun q => no fun i hi e => by have := (hc.2 i hi e).2; rw [decide_eq_true_eq] at q; omega) (fun _ => needS_intro (by simp <;> omega) (.inr (.inl ⟨(w, r), (by first | rfl | trivial), (by first | rfl | trivial), congrArg some (tailS y r), (by first | rfl | trivial), (by first | rfl | trivial), (by first | rfl | trivial), (by first | rfl | trivial), (by first | rfl | trivial), (by first | rfl | trivial), (by first | rfl | trivial), (by first | rfl | trivial), ⟨hok, hc.1⟩, by decide⟩)))))
    · obtain ⟨a, x⟩ := x
      obtain ⟨_, hp⟩ := hx
      simp only at hp ⊢
      refine brS_intro (fun cf => ?_) (fun cf => ?_)
      · have cf2 : fB (fmI op) = false := by simpa using cf
        exact .inr (.inr (.inl ⟨(a, 0, x), (by first | rfl | trivial), (by first | rfl | trivial), (by first | rfl | trivial), (by first | rfl | trivial), (by first | rfl | trivial), (by first | rfl | trivial), (by first | rfl | trivial), (by first | rfl | trivial), (by first | rfl | trivial), (by first | rfl | trivial), (by first | rfl | trivial), ⟨hok, PC_skipB hp cf2⟩, by decide⟩))
      · have cf2 : fB (fmI op) = true := by simpa using cf
        cases x with
        | nil => exact brS_intro (fun _ => no (PC_nilB hp cf2)) (fun q => absurd q (by simp))
        | cons y r =>
          refine brS_intro (fun q => absurd q (by simp <;> omega)) (fun _ => needS_intro (by simp <;> omega) (ldSS_c fun v _ hv => brS_intro (fun c6 => ?_) (fun c6 => needS_intro (by simp <;> omega) (.inr (.inr (.inl ⟨(a, v, r), (by first | rfl | trivial), (by first | rfl | trivial), congrArg some (tailS y r), (by first | rfl | trivial), (by first | rfl | trivial), (by first | rfl | trivial), (by first | rfl | trivial), (by first | rfl | trivial), (by first | rfl | trivial), (by first | rfl | trivial), (by first | rfl | trivial), ⟨hok, PC_regB hp cf2 hv⟩, by decide⟩))))))
          exact (PC_no6 hp (.inl cf2) (by simpa using c6)).elim
    · obtain ⟨a, b, x⟩ := x
      obtain ⟨_, hp⟩ := hx
      simp only at hp ⊢
      refine brS_intro (fun cf => ?_) (fun cf => ?_)
      · have cf2 : fC (fmI op) = false := by simpa using cf
        exact .inr (.inr (.inr ⟨(a, b, 0, x), (by first | rfl | trivial), (by first | rfl | trivial), (by first | rfl | trivial), (by first | rfl | trivial), (by first | rfl | trivial), (by first | rfl | trivial), (by first | rfl | trivial), (by first | rfl | trivial), (by first | rfl | trivial), (by first | rfl | trivial), (by first | rfl | trivial), ⟨hok, PC_skipC hp cf2⟩, by decide⟩))
      · have cf2 : fC (fmI op) = true := by simpa using cf
        cases x with
        | nil => exact brS_intro (fun _ => no (PC_nilC hp cf2)) (fun q => absurd q (by simp))
        | cons y r =>
          refine brS_intro (fun q => absurd q (by simp <;> omega)) (fun _ => needS_intro (by simp <;> omega) (ldSS_c fun v _ hv => brS_intro (fun c6 => ?_) (fun c6 => needS_intro (by simp <;> omega) (.inr (.inr (.inr ⟨(a, b, v, r), (by first | rfl | trivial), (by first | rfl | trivial), congrArg some (tailS y r), (by first | rfl | trivial), (by first | rfl | trivial), (by first | rfl | trivial), (by first | rfl | trivial), (by first | rfl | trivial), (by first | rfl | trivial), (by first | rfl | trivial), (by first | rfl | trivial), ⟨hok, PC_regC hp cf2 hv⟩, by decide⟩))))))
          exact (PC_no6 hp (.inr cf2) (by simpa using c6)).elim
    · obtain ⟨a, b, c, x⟩ := x
      obtain ⟨_, hp⟩ := hx
      simp only at hp ⊢
      refine brS_intro (fun cf => ?_) (fun cf => ?_)
      · have cf2 : fN (fmI op) = true := by simpa using cf
        cases x with
        | nil => exact brS_intro (fun _ => no (PC_nilN hp cf2)) (fun q => absurd q (by simp))
        | cons y r =>
          refine brS_intro (fun q => absurd q (by simp <;> omega)) (fun _ => needS_intro (by simp <;> omega) (ldSS_c fun v ok _ hv => ?_))
          have hc := PC_numN hp cf2 hv (fun i hi => (vIn_rng hi).2.2.2)
          refine brS_intro (fun q => no fun i hi e => by rw [hc.2 i hi e] at q; cases q) (fun _ => needS_intro (by simp <;> omega) ?_)
          exact brS_intro (fun q => no (PE_long hc.1 (fun e => by subst e; simp at q))) (fun _ => brS_intro (fun q => no (PE_bad hc.1 (fun e => by have h1 : validI op a b c v = true := e.1; rw [h1] at q; cases q))) (fun q1 => brS_intro (fun q => no (PE_bad hc.1 fun e => by rw [e.2, beq_self_eq_true] at q; cases q)) (fun q2 => yes ⟨op, a, b, c, v⟩ (vin_of q1) (by simpa using q2))))
      · have cf2 : fN (fmI op) = false := by simpa using cf
        have hc := PC_skipN hp cf2
        exact brS_intro (fun q => no (PE_long hc (fun e => by subst e; simp at q))) (fun _ => brS_intro (fun q => no (PE_bad hc (fun e => by have h1 : validI op a b c 0 = true := e.1; rw [h1] at q; cases q))) (fun q1 => brS_intro (fun q => no (PE_bad hc fun e => by rw [e.2, beq_self_eq_true] at q; cases q)) (fun q2 => yes ⟨op, a, b, c, 0⟩ (vin_of q1) (by simpa using q2))))
  · exact hk.elim
def cParse := addC 10 kParse cFormat
theorem okParse : Sound env cParse := sound_add sParse (okFormat)

end Go.Proofs.YtfmcdageaananaaDoor
