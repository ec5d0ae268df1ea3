/-
  Machine words: DecodeAll of the program and of the reference.
  Conditions: none.
-/
import Derived.Test.YtlenjfbmpekabaaDoorI30
import Derived.Test.YtlenjfbmpekabaaDoorT30
import Derived.KernelRfl
set_option linter.unusedVariables false
set_option linter.unusedSimpArgs false
namespace Go.Proofs.YtlenjfbmpekabaaDoor
open Go.Pv Go.M29 Go.M30
def daDecAll (w : List Int) : Inv' := .or
  (atX Unit (fun _ => [(5, .v .nilslice), (6, .v .nilslice), (0, .v (.vslice none 0 (w).length 1 ((w).map (IV.int .u32)))), (7, .v (.int .i64 0))]) (fun _ => []) (fun _ => Heap.empty) (fun _ => True) (fun _ => w.length + 1))
  (atX (Nat × Int × List In × List Int) (fun x => [(5, .v (.vslice (some 0) ((x.2.2.1).length * 5) (x.2.2.1).length 5 ((x.2.2.1).flatMap cIns))), (6, .v (.vslice (some 1) (x.2.2.2).length (x.2.2.2).length 1 ((x.2.2.2).map (IV.int .i64)))), (0, .v (.vslice none 0 (w).length 1 ((w).map (IV.int .u32)))), (7, .v (.int .i64 x.2.1))]) (fun _ => []) (fun x => ⟨.node (.node .nil (some (.tip x.2.2.2.length)) .nil) (some (.tip (x.2.2.1.length * 5))) .nil, 2⟩)
    (fun x => (decAcc w x.1 x.2.1 x.2.2.1 x.2.2.2 = decA w ∧ (w.length : Int) - x.2.1 < x.1) ∧ (0 ≤ x.2.1 ∧ x.2.1 ≤ w.length) ∧ x.2.2.2.length = x.2.2.1.length ∧ (x.2.2.1.length : Int) ≤ x.2.1) (fun x => ((w.length : Int) - x.2.1).toNat))
def kDecAll (xs : List IV) (h : Heap) (K : IV → Heap → Prop) : Prop := match xs with
  | [.vslice none e1 n1 1 c1] => ∃ w : List Int, (n1 = w.length ∧ c1 = w.map (IV.int .u32)) ∧ ((∀ x ∈ w, u32b x) ∧ w.length ≤ 1000000) ∧ K (.tuple [.vslice none 0 ((decA w).1).length 5 (((decA w).1).flatMap cIns), .vslice none 0 ((decA w).2.1).length 1 (((decA w).2.1).map (IV.int .i64)), .int .i64 (decA w).2.2]) h
  | _ => False
set_option maxRecDepth 100000 in
theorem vDecAll (w : List Int) (e1 : Nat) (h : Heap) (Q : IV → Heap → Prop) : dF (stdS cInstrs) env 48 noU (ic1 5 (daDecAll w)) noI [.vslice none e1 (w).length 1 ((w).map (IV.int .u32))] h Q = (
  needS (pureL [IV.vslice none (0 : Nat) (List.length w) (1 : Nat) (List.map (IV.int IntKind.u32) w)])
 (((∃ (x : Unit),
 some (TV.v IV.nilslice) = some (TV.v IV.nilslice) ∧
 some (TV.v IV.nilslice) = some (TV.v IV.nilslice) ∧
 some (TV.v (IV.vslice none (0 : Nat) (List.length w) (1 : Nat) (List.map (IV.int IntKind.u32) w))) = some (TV.v (IV.vslice none (0 : Nat) (List.length w) (1 : Nat) (List.map (IV.int IntKind.u32) w))) ∧
 some (TV.v (IV.int IntKind.i64 (0 : Int))) = some (TV.v (IV.int IntKind.i64 (0 : Int))) ∧ Heap.mk PT.nil (0 : Nat) = Heap.mk PT.nil (0 : Nat) ∧ True ∧ True) ∨
 ∃ (x : Nat × Int × List In × List Int),
 some (TV.v IV.nilslice) =
 some (TV.v (IV.vslice (some (0 : Nat)) (List.length (Prod.fst (Prod.snd (Prod.snd x))) * (5 : Nat)) (List.length (Prod.fst (Prod.snd (Prod.snd x)))) (5 : Nat) (List.flatMap cIns (Prod.fst (Prod.snd (Prod.snd x)))))) ∧
 some (TV.v IV.nilslice) =
 some (TV.v (IV.vslice (some (1 : Nat)) (List.length (Prod.snd (Prod.snd (Prod.snd x)))) (List.length (Prod.snd (Prod.snd (Prod.snd x)))) (1 : Nat) (List.map (IV.int IntKind.i64) (Prod.snd (Prod.snd (Prod.snd x)))))) ∧
 some (TV.v (IV.vslice none (0 : Nat) (List.length w) (1 : Nat) (List.map (IV.int IntKind.u32) w))) = some (TV.v (IV.vslice none (0 : Nat) (List.length w) (1 : Nat) (List.map (IV.int IntKind.u32) w))) ∧
 some (TV.v (IV.int IntKind.i64 (0 : Int))) = some (TV.v (IV.int IntKind.i64 (Prod.fst (Prod.snd x)))) ∧
 Heap.mk PT.nil (0 : Nat) =
 Heap.mk (PT.node (PT.node PT.nil (some (IObj.tip (List.length (Prod.snd (Prod.snd (Prod.snd x)))))) PT.nil) (some (IObj.tip (List.length (Prod.fst (Prod.snd (Prod.snd x))) * (5 : Nat)))) PT.nil) (2 : Nat) ∧
 ((decAcc w (Prod.fst x) (Prod.fst (Prod.snd x)) (Prod.fst (Prod.snd (Prod.snd x))) (Prod.snd (Prod.snd (Prod.snd x))) = decA w ∧ (↑(List.length w) : Int) - Prod.fst (Prod.snd x) < (↑(Prod.fst x) : Int)) ∧
 ((0 : Int) ≤ Prod.fst (Prod.snd x) ∧ Prod.fst (Prod.snd x) ≤ (↑(List.length w) : Int)) ∧
 List.length (Prod.snd (Prod.snd (Prod.snd x))) = List.length (Prod.fst (Prod.snd (Prod.snd x))) ∧ (↑(List.length (Prod.fst (Prod.snd (Prod.snd x)))) : Int) ≤ Prod.fst (Prod.snd x)) ∧
 True) ∧
 (∀ (x : Unit) (b : FF),
 True →
 brS (decide ((0 : Int) < (↑(List.length w) : Int)))
 (∃ (w_1 : List Int),
 (List.length w = List.length w_1 ∧ List.map (IV.int IntKind.u32) w = List.map (IV.int IntKind.u32) w_1) ∧
 ((∀ (x : Int), x ∈ w_1 → u32b x) ∧ (↑(List.length w_1) : Int) ≤ (9223372036854775807 : Int) ∧ (-9223372036854775808 : Int) ≤ (0 : Int)) ∧
 brS (Prod.snd (Prod.snd (decR w_1 (0 : Int))) != (0 : Int))
 (Q (IV.tuple [IV.vslice none (0 : Nat) (0 : Nat) (5 : Nat) [], IV.vslice none (0 : Nat) (0 : Nat) (1 : Nat) [], IV.int IntKind.i64 (Prod.snd (Prod.snd (decR w_1 (0 : Int))))]) h)
 ((∃ (x : Unit),
 some
 (TV.v
 (IV.vslice (some (0 : Nat)) (5 : Nat) (1 : Nat) (5 : Nat)
 [IV.int IntKind.i64 (In.op (Prod.fst (decR w_1 (0 : Int)))), IV.int IntKind.i64 (In.a (Prod.fst (decR w_1 (0 : Int)))), IV.int IntKind.i64 (In.b (Prod.fst (decR w_1 (0 : Int)))),
 IV.int IntKind.i64 (In.c (Prod.fst (decR w_1 (0 : Int)))), IV.int IntKind.i64 (In.n (Prod.fst (decR w_1 (0 : Int))))])) =
 some (TV.v IV.nilslice) ∧
 some (TV.v (IV.vslice (some ((0 : Nat) + (1 : Nat))) (1 : Nat) (1 : Nat) (1 : Nat) [IV.int IntKind.i64 (0 : Int)])) = some (TV.v IV.nilslice) ∧
 some (TV.v (IV.vslice none (0 : Nat) (List.length w) (1 : Nat) (List.map (IV.int IntKind.u32) w))) = some (TV.v (IV.vslice none (0 : Nat) (List.length w) (1 : Nat) (List.map (IV.int IntKind.u32) w))) ∧
 some (TV.v (IV.int IntKind.i64 (IntKind.wrap IntKind.i64 ((0 : Int) + Prod.fst (Prod.snd (decR w_1 (0 : Int))))))) = some (TV.v (IV.int IntKind.i64 (0 : Int))) ∧
 Heap.mk (PT.node (PT.node PT.nil (some (IObj.tip (1 : Nat))) PT.nil) (some (IObj.tip (5 : Nat))) PT.nil) ((0 : Nat) + (1 : Nat) + (1 : Nat)) = Heap.mk PT.nil (0 : Nat) ∧
 True ∧ List.length w + (1 : Nat) < List.length w + (1 : Nat)) ∨
 ∃ (x : Nat × Int × List In × List Int),
 some
 (TV.v
 (IV.vslice (some (0 : Nat)) (5 : Nat) (1 : Nat) (5 : Nat)
 [IV.int IntKind.i64 (In.op (Prod.fst (decR w_1 (0 : Int)))), IV.int IntKind.i64 (In.a (Prod.fst (decR w_1 (0 : Int)))), IV.int IntKind.i64 (In.b (Prod.fst (decR w_1 (0 : Int)))),
 IV.int IntKind.i64 (In.c (Prod.fst (decR w_1 (0 : Int)))), IV.int IntKind.i64 (In.n (Prod.fst (decR w_1 (0 : Int))))])) =
 some
 (TV.v
 (IV.vslice (some (0 : Nat)) (List.length (Prod.fst (Prod.snd (Prod.snd x))) * (5 : Nat)) (List.length (Prod.fst (Prod.snd (Prod.snd x)))) (5 : Nat) (List.flatMap cIns (Prod.fst (Prod.snd (Prod.snd x)))))) ∧
 some (TV.v (IV.vslice (some ((0 : Nat) + (1 : Nat))) (1 : Nat) (1 : Nat) (1 : Nat) [IV.int IntKind.i64 (0 : Int)])) =
 some
 (TV.v
 (IV.vslice (some (1 : Nat)) (List.length (Prod.snd (Prod.snd (Prod.snd x)))) (List.length (Prod.snd (Prod.snd (Prod.snd x)))) (1 : Nat) (List.map (IV.int IntKind.i64) (Prod.snd (Prod.snd (Prod.snd x)))))) ∧
 some (TV.v (IV.vslice none (0 : Nat) (List.length w) (1 : Nat) (List.map (IV.int IntKind.u32) w))) = some (TV.v (IV.vslice none (0 : Nat) (List.length w) (1 : Nat) (List.map (IV.int IntKind.u32) w))) ∧
 some (TV.v (IV.int IntKind.i64 (IntKind.wrap IntKind.i64 ((0 : Int) + Prod.fst (Prod.snd (decR w_1 (0 : Int))))))) = some (TV.v (IV.int IntKind.i64 (Prod.fst (Prod.snd x)))) ∧
 Heap.mk (PT.node (PT.node PT.nil (some (IObj.tip (1 : Nat))) PT.nil) (some (IObj.tip (5 : Nat))) PT.nil) ((0 : Nat) + (1 : Nat) + (1 : Nat)) =
 Heap.mk (PT.node (PT.node PT.nil (some (IObj.tip (List.length (Prod.snd (Prod.snd (Prod.snd x)))))) PT.nil) (some (IObj.tip (List.length (Prod.fst (Prod.snd (Prod.snd x))) * (5 : Nat)))) PT.nil)
 (2 : Nat) ∧
 ((decAcc w (Prod.fst x) (Prod.fst (Prod.snd x)) (Prod.fst (Prod.snd (Prod.snd x))) (Prod.snd (Prod.snd (Prod.snd x))) = decA w ∧ (↑(List.length w) : Int) - Prod.fst (Prod.snd x) < (↑(Prod.fst x) : Int)) ∧
 ((0 : Int) ≤ Prod.fst (Prod.snd x) ∧ Prod.fst (Prod.snd x) ≤ (↑(List.length w) : Int)) ∧
 List.length (Prod.snd (Prod.snd (Prod.snd x))) = List.length (Prod.fst (Prod.snd (Prod.snd x))) ∧ (↑(List.length (Prod.fst (Prod.snd (Prod.snd x)))) : Int) ≤ Prod.fst (Prod.snd x)) ∧
 Int.toNat ((↑(List.length w) : Int) - Prod.fst (Prod.snd x)) < List.length w + (1 : Nat)))
 (Q (IV.tuple [IV.vslice none (0 : Nat) (0 : Nat) (5 : Nat) [], IV.vslice none (0 : Nat) (0 : Nat) (1 : Nat) [], IV.int IntKind.i64 (0 : Int)]) h)) ∧
 ∀ (x : Nat × Int × List In × List Int) (b : FF),
 (decAcc w (Prod.fst x) (Prod.fst (Prod.snd x)) (Prod.fst (Prod.snd (Prod.snd x))) (Prod.snd (Prod.snd (Prod.snd x))) = decA w ∧ (↑(List.length w) : Int) - Prod.fst (Prod.snd x) < (↑(Prod.fst x) : Int)) ∧
 ((0 : Int) ≤ Prod.fst (Prod.snd x) ∧ Prod.fst (Prod.snd x) ≤ (↑(List.length w) : Int)) ∧
 List.length (Prod.snd (Prod.snd (Prod.snd x))) = List.length (Prod.fst (Prod.snd (Prod.snd x))) ∧ (↑(List.length (Prod.fst (Prod.snd (Prod.snd x)))) : Int) ≤ Prod.fst (Prod.snd x) →
 brS (decide (Prod.fst (Prod.snd x) < (↑(List.length w) : Int)))
 (∃ (w_1 : List Int),
 (List.length w = List.length w_1 ∧ List.map (IV.int IntKind.u32) w = List.map (IV.int IntKind.u32) w_1) ∧
 ((∀ (x : Int), x ∈ w_1 → u32b x) ∧ (↑(List.length w_1) : Int) ≤ (9223372036854775807 : Int) ∧ (-9223372036854775808 : Int) ≤ Prod.fst (Prod.snd x)) ∧
 brS (Prod.snd (Prod.snd (decR w_1 (Prod.fst (Prod.snd x)))) != (0 : Int))
 (Q (IV.tuple [IV.vslice none (0 : Nat) (0 : Nat) (5 : Nat) [], IV.vslice none (0 : Nat) (0 : Nat) (1 : Nat) [], IV.int IntKind.i64 (Prod.snd (Prod.snd (decR w_1 (Prod.fst (Prod.snd x)))))]) h)
 (needS
 (Nat.beq (List.length (Prod.fst (Prod.snd (Prod.snd x))) * (5 : Nat)) (List.length (Prod.fst (Prod.snd (Prod.snd x))) * (5 : Nat)) &&
 Nat.ble ((List.length (Prod.fst (Prod.snd (Prod.snd x))) + (1 : Nat)) * (40 : Nat)) (140737488355328 : Nat))
 (needS
 (Nat.beq (List.length (Prod.snd (Prod.snd (Prod.snd x)))) (List.length (Prod.snd (Prod.snd (Prod.snd x)))) &&
 Nat.ble ((List.length (Prod.snd (Prod.snd (Prod.snd x))) + (1 : Nat)) * (8 : Nat)) (140737488355328 : Nat))
 ((∃ (x_1 : Unit),
 some
 (TV.v
 (IV.vslice (some (0 : Nat)) (List.length (Prod.fst (Prod.snd (Prod.snd x))) * (5 : Nat) + (5 : Nat)) (List.length (Prod.fst (Prod.snd (Prod.snd x))) + (1 : Nat)) (5 : Nat)
 (List.flatMap cIns (Prod.fst (Prod.snd (Prod.snd x))) ++
 [IV.int IntKind.i64 (In.op (Prod.fst (decR w_1 (Prod.fst (Prod.snd x))))), IV.int IntKind.i64 (In.a (Prod.fst (decR w_1 (Prod.fst (Prod.snd x))))),
 IV.int IntKind.i64 (In.b (Prod.fst (decR w_1 (Prod.fst (Prod.snd x))))), IV.int IntKind.i64 (In.c (Prod.fst (decR w_1 (Prod.fst (Prod.snd x))))),
 IV.int IntKind.i64 (In.n (Prod.fst (decR w_1 (Prod.fst (Prod.snd x)))))]))) =
 some (TV.v IV.nilslice) ∧
 some
 (TV.v
 (IV.vslice (some (1 : Nat)) (List.length (Prod.snd (Prod.snd (Prod.snd x))) + (1 : Nat)) (List.length (Prod.snd (Prod.snd (Prod.snd x))) + (1 : Nat)) (1 : Nat)
 (List.map (IV.int IntKind.i64) (Prod.snd (Prod.snd (Prod.snd x))) ++ [IV.int IntKind.i64 (Prod.fst (Prod.snd x))]))) =
 some (TV.v IV.nilslice) ∧
 some (TV.v (IV.vslice none (0 : Nat) (List.length w) (1 : Nat) (List.map (IV.int IntKind.u32) w))) = some (TV.v (IV.vslice none (0 : Nat) (List.length w) (1 : Nat) (List.map (IV.int IntKind.u32) w))) ∧
 some (TV.v (IV.int IntKind.i64 (IntKind.wrap IntKind.i64 (Prod.fst (Prod.snd x) + Prod.fst (Prod.snd (decR w_1 (Prod.fst (Prod.snd x)))))))) = some (TV.v (IV.int IntKind.i64 (0 : Int))) ∧
 Heap.mk
 (PT.node (PT.node PT.nil (some (IObj.tip (List.length (Prod.snd (Prod.snd (Prod.snd x))) + (1 : Nat)))) PT.nil)
 (some (IObj.tip (List.length (Prod.fst (Prod.snd (Prod.snd x))) * (5 : Nat) + (5 : Nat)))) PT.nil)
 (2 : Nat) =
 Heap.mk PT.nil (0 : Nat) ∧
 True ∧ List.length w + (1 : Nat) < Int.toNat ((↑(List.length w) : Int) - Prod.fst (Prod.snd x))) ∨
 ∃ (x_1 : Nat × Int × List In × List Int),
 some
 (TV.v
 (IV.vslice (some (0 : Nat)) (List.length (Prod.fst (Prod.snd (Prod.snd x))) * (5 : Nat) + (5 : Nat)) (List.length (Prod.fst (Prod.snd (Prod.snd x))) + (1 : Nat)) (5 : Nat)
 (List.flatMap cIns (Prod.fst (Prod.snd (Prod.snd x))) ++
 [IV.int IntKind.i64 (In.op (Prod.fst (decR w_1 (Prod.fst (Prod.snd x))))), IV.int IntKind.i64 (In.a (Prod.fst (decR w_1 (Prod.fst (Prod.snd x))))),
 IV.int IntKind.i64 (In.b (Prod.fst (decR w_1 (Prod.fst (Prod.snd x))))), IV.int IntKind.i64 (In.c (Prod.fst (decR w_1 (Prod.fst (Prod.snd x))))),
 IV.int IntKind.i64 (In.n (Prod.fst (decR w_1 (Prod.fst (Prod.snd x)))))]))) =
 some
 (TV.v
 (IV.vslice (some (0 : Nat)) (List.length (Prod.fst (Prod.snd (Prod.snd x_1))) * (5 : Nat)) (List.length (Prod.fst (Prod.snd (Prod.snd x_1)))) (5 : Nat)
 (List.flatMap cIns (Prod.fst (Prod.snd (Prod.snd x_1)))))) ∧
 some
 (TV.v
 (IV.vslice (some (1 : Nat)) (List.length (Prod.snd (Prod.snd (Prod.snd x))) + (1 : Nat)) (List.length (Prod.snd (Prod.snd (Prod.snd x))) + (1 : Nat)) (1 : Nat)
 (List.map (IV.int IntKind.i64) (Prod.snd (Prod.snd (Prod.snd x))) ++ [IV.int IntKind.i64 (Prod.fst (Prod.snd x))]))) =
 some
 (TV.v
 (IV.vslice (some (1 : Nat)) (List.length (Prod.snd (Prod.snd (Prod.snd x_1)))) (List.length (Prod.snd (Prod.snd (Prod.snd x_1)))) (1 : Nat)
 (List.map (IV.int IntKind.i64) (Prod.snd (Prod.snd (Prod.snd x_1)))))) ∧
 some (TV.v (IV.vslice none (0 : Nat) (List.length w) (1 : Nat) (List.map (IV.int IntKind.u32) w))) = some (TV.v (IV.vslice none (0 : Nat) (List.length w) (1 : Nat) (List.map (IV.int IntKind.u32) w))) ∧
 some (TV.v (IV.int IntKind.i64 (IntKind.wrap IntKind.i64 (Prod.fst (Prod.snd x) + Prod.fst (Prod.snd (decR w_1 (Prod.fst (Prod.snd x)))))))) = some (TV.v (IV.int IntKind.i64 (Prod.fst (Prod.snd x_1)))) ∧
 Heap.mk
 (PT.node (PT.node PT.nil (some (IObj.tip (List.length (Prod.snd (Prod.snd (Prod.snd x))) + (1 : Nat)))) PT.nil)
 (some (IObj.tip (List.length (Prod.fst (Prod.snd (Prod.snd x))) * (5 : Nat) + (5 : Nat)))) PT.nil)
 (2 : Nat) =
 Heap.mk (PT.node (PT.node PT.nil (some (IObj.tip (List.length (Prod.snd (Prod.snd (Prod.snd x_1)))))) PT.nil) (some (IObj.tip (List.length (Prod.fst (Prod.snd (Prod.snd x_1))) * (5 : Nat)))) PT.nil)
 (2 : Nat) ∧
 ((decAcc w (Prod.fst x_1) (Prod.fst (Prod.snd x_1)) (Prod.fst (Prod.snd (Prod.snd x_1))) (Prod.snd (Prod.snd (Prod.snd x_1))) = decA w ∧
 (↑(List.length w) : Int) - Prod.fst (Prod.snd x_1) < (↑(Prod.fst x_1) : Int)) ∧
 ((0 : Int) ≤ Prod.fst (Prod.snd x_1) ∧ Prod.fst (Prod.snd x_1) ≤ (↑(List.length w) : Int)) ∧
 List.length (Prod.snd (Prod.snd (Prod.snd x_1))) = List.length (Prod.fst (Prod.snd (Prod.snd x_1))) ∧ (↑(List.length (Prod.fst (Prod.snd (Prod.snd x_1)))) : Int) ≤ Prod.fst (Prod.snd x_1)) ∧
 Int.toNat ((↑(List.length w) : Int) - Prod.fst (Prod.snd x_1)) < Int.toNat ((↑(List.length w) : Int) - Prod.fst (Prod.snd x))))))
 (needS
 (pureL
 [IV.vslice none (0 : Nat) (List.length (Prod.fst (Prod.snd (Prod.snd x)))) (5 : Nat) (List.flatMap cIns (Prod.fst (Prod.snd (Prod.snd x)))),
 IV.vslice none (0 : Nat) (List.length (Prod.snd (Prod.snd (Prod.snd x)))) (1 : Nat) (List.map (IV.int IntKind.i64) (Prod.snd (Prod.snd (Prod.snd x)))), IV.int IntKind.i64 (0 : Int)])
 (Q
 (IV.tuple
 [IV.vslice none (0 : Nat) (List.length (Prod.fst (Prod.snd (Prod.snd x)))) (5 : Nat) (List.flatMap cIns (Prod.fst (Prod.snd (Prod.snd x)))),
 IV.vslice none (0 : Nat) (List.length (Prod.snd (Prod.snd (Prod.snd x)))) (1 : Nat) (List.map (IV.int IntKind.i64) (Prod.snd (Prod.snd (Prod.snd x)))), IV.int IntKind.i64 (0 : Int)])
 h)))) := by kernel_rfl
set_option maxHeartbeats 4000000 in
theorem sDecAll : ∀ xs h Q, kDecAll xs h Q → CallW env 48 xs h Q := by
  intro xs h Q hk
  unfold kDecAll at hk
  split at hk
  · rename_i e1 n1 c1
    obtain ⟨w, ⟨rfl, rfl⟩, hb, hk⟩ := hk
    refine dF_run (okInstrs) (vDecAll w e1 h Q) ?_
    obtain ⟨hw, hl⟩ := hb
    refine needS_intro (by simp only [pureL, pureB, pureL_ints, Bool.and_true]) ⟨.inl ⟨(), rfl, rfl, rfl, rfl, rfl, trivial, trivial⟩, fun _ _ _ => ?_, fun x _ hx => ?_⟩
    · refine brS_intro (fun c1 => ?_) (fun c1 => ?_)
      · rw [decide_eq_true_eq] at c1
        have hA : decA w = if (decR w 0).2.2 = 0 then decAcc w w.length (0 + (decR w 0).2.1) ([] ++ [(decR w 0).1]) ([] ++ [0]) else ([], [], (decR w 0).2.2) := by
          show decAcc w (w.length + 1) 0 [] [] = _
          rw [decAcc_succ, if_pos c1]
        refine ⟨w, ⟨rfl, rfl⟩, ⟨hw, by omega, by omega⟩, brS_intro (fun c2 => ?_) (fun c2 => ?_)⟩
        · rw [bne_iff_ne] at c2
          rw [hA, if_neg c2] at hk
          exact hk
        · rw [bne_eq_false_iff_eq] at c2
          obtain ⟨p1, p2, p3⟩ := dec_pos hw c2
          rw [hA, if_pos c2] at hk
          refine .inr ⟨(w.length, 0 + (decR w 0).2.1, [(decR w 0).1], [0]), rfl, rfl, rfl, ?_, rfl, ⟨⟨?_, by simp only; omega⟩, ⟨by simp only; omega, by simp only; omega⟩, rfl, by simp only [List.length_cons, List.length_nil]; omega⟩, by simp only; omega⟩
          · simp only
            rw [IntWalk.i64_in _ (by omega)]
          · simp only
            rw [hA, if_pos c2]
            rfl
      · rw [decide_eq_false_iff_not] at c1
        have hA : decA w = ([], [], 0) := by
          unfold decA decAcc
          rw [if_neg c1]
        rw [hA] at hk
        exact hk
    · obtain ⟨n, k, acc, pl⟩ := x
      obtain ⟨⟨hA, hn⟩, ⟨h0, h1⟩, hlen, hak⟩ := hx
      simp only at hA hn h0 h1 hlen hak ⊢
      refine brS_intro (fun c1 => ?_) (fun c1 => ?_)
      · rw [decide_eq_true_eq] at c1
        obtain ⟨m, rfl⟩ : ∃ m, n = m + 1 := ⟨n - 1, by omega⟩
        have hA2 : decA w = if (decR w k).2.2 = 0 then decAcc w m (k + (decR w k).2.1) (acc ++ [(decR w k).1]) (pl ++ [k]) else ([], [], (decR w k).2.2) := by
          rw [← hA, decAcc_succ, if_pos c1]
        refine ⟨w, ⟨rfl, rfl⟩, ⟨hw, by omega, by omega⟩, brS_intro (fun c2 => ?_) (fun c2 => ?_)⟩
        · rw [bne_iff_ne] at c2
          rw [hA2, if_neg c2] at hk
          exact hk
        · rw [bne_eq_false_iff_eq] at c2
          obtain ⟨p1, p2, p3⟩ := dec_pos hw c2
          refine needS_intro (by simp [nbeq_t]; omega) (needS_intro (by simp [nbeq_t]; omega) (.inr ⟨(m, k + (decR w k).2.1, acc ++ [(decR w k).1], pl ++ [k]), ?_, ?_, (by first | rfl | trivial), ?_, ?_, ⟨⟨?_, by simp only; omega⟩, ⟨by simp only; omega, by simp only; omega⟩, ?_, ?_⟩, by simp only; omega⟩))
          · simp [Nat.add_mul, cIns]
          · simp
          · simp only
            rw [IntWalk.i64_in _ (by omega)]
          · simp [Nat.add_mul]
          · simp only
            rw [hA2, if_pos c2]
          · simp [hlen]
          · simp only [List.length_append, List.length_cons, List.length_nil]; omega
      · rw [decide_eq_false_iff_not] at c1
        have hA2 : decA w = (acc, pl, 0) := by
          rw [← hA]
          cases n with
          | zero => omega
          | succ n => unfold decAcc; rw [if_neg c1]
        rw [hA2] at hk
        exact needS_intro (by simp only [pureL, pureB, pureL_in, pureL_ints, Bool.and_true]) hk
  · exact hk.elim
def cDecAll := addC 48 kDecAll cInstrs
theorem okDecAll : Sound env cDecAll := sound_add sDecAll (okInstrs)

def daRDecAll (w : List Int) : Inv' := .or
  (atX Unit (fun _ => [(5, .v .nilslice), (6, .v .nilslice), (0, .v (.vslice none 0 (w).length 1 ((w).map (IV.int .u32)))), (7, .v (.int .i64 0))]) (fun _ => []) (fun _ => Heap.empty) (fun _ => True) (fun _ => w.length + 1))
  (atX (Nat × Int × List In × List Int) (fun x => [(5, .v (.vslice (some 0) ((x.2.2.1).length * 5) (x.2.2.1).length 5 ((x.2.2.1).flatMap cIns))), (6, .v (.vslice (some 1) (x.2.2.2).length (x.2.2.2).length 1 ((x.2.2.2).map (IV.int .i64)))), (0, .v (.vslice none 0 (w).length 1 ((w).map (IV.int .u32)))), (7, .v (.int .i64 x.2.1))]) (fun _ => []) (fun x => ⟨.node (.node .nil (some (.tip x.2.2.2.length)) .nil) (some (.tip (x.2.2.1.length * 5))) .nil, 2⟩)
    (fun x => (decAcc w x.1 x.2.1 x.2.2.1 x.2.2.2 = decA w ∧ (w.length : Int) - x.2.1 < x.1) ∧ (0 ≤ x.2.1 ∧ x.2.1 ≤ w.length) ∧ x.2.2.2.length = x.2.2.1.length ∧ (x.2.2.1.length : Int) ≤ x.2.1) (fun x => ((w.length : Int) - x.2.1).toNat))
def kRDecAll (xs : List IV) (h : Heap) (K : IV → Heap → Prop) : Prop := match xs with
  | [.vslice none e1 n1 1 c1] => ∃ w : List Int, (n1 = w.length ∧ c1 = w.map (IV.int .u32)) ∧ ((∀ x ∈ w, u32b x) ∧ w.length ≤ 1000000) ∧ K (.tuple [.vslice none 0 ((decA w).1).length 5 (((decA w).1).flatMap cIns), .vslice none 0 ((decA w).2.1).length 1 (((decA w).2.1).map (IV.int .i64)), .int .i64 (decA w).2.2]) h
  | _ => False
set_option maxRecDepth 100000 in
theorem vRDecAll (w : List Int) (e1 : Nat) (h : Heap) (Q : IV → Heap → Prop) : dF (stdS cDecAll) env 51 noU (ic1 5 (daRDecAll w)) noI [.vslice none e1 (w).length 1 ((w).map (IV.int .u32))] h Q = (
  needS (pureL [IV.vslice none (0 : Nat) (List.length w) (1 : Nat) (List.map (IV.int IntKind.u32) w)])
 (((∃ (x : Unit),
 some (TV.v IV.nilslice) = some (TV.v IV.nilslice) ∧
 some (TV.v IV.nilslice) = some (TV.v IV.nilslice) ∧
 some (TV.v (IV.vslice none (0 : Nat) (List.length w) (1 : Nat) (List.map (IV.int IntKind.u32) w))) = some (TV.v (IV.vslice none (0 : Nat) (List.length w) (1 : Nat) (List.map (IV.int IntKind.u32) w))) ∧
 some (TV.v (IV.int IntKind.i64 (0 : Int))) = some (TV.v (IV.int IntKind.i64 (0 : Int))) ∧ Heap.mk PT.nil (0 : Nat) = Heap.mk PT.nil (0 : Nat) ∧ True ∧ True) ∨
 ∃ (x : Nat × Int × List In × List Int),
 some (TV.v IV.nilslice) =
 some (TV.v (IV.vslice (some (0 : Nat)) (List.length (Prod.fst (Prod.snd (Prod.snd x))) * (5 : Nat)) (List.length (Prod.fst (Prod.snd (Prod.snd x)))) (5 : Nat) (List.flatMap cIns (Prod.fst (Prod.snd (Prod.snd x)))))) ∧
 some (TV.v IV.nilslice) =
 some (TV.v (IV.vslice (some (1 : Nat)) (List.length (Prod.snd (Prod.snd (Prod.snd x)))) (List.length (Prod.snd (Prod.snd (Prod.snd x)))) (1 : Nat) (List.map (IV.int IntKind.i64) (Prod.snd (Prod.snd (Prod.snd x)))))) ∧
 some (TV.v (IV.vslice none (0 : Nat) (List.length w) (1 : Nat) (List.map (IV.int IntKind.u32) w))) = some (TV.v (IV.vslice none (0 : Nat) (List.length w) (1 : Nat) (List.map (IV.int IntKind.u32) w))) ∧
 some (TV.v (IV.int IntKind.i64 (0 : Int))) = some (TV.v (IV.int IntKind.i64 (Prod.fst (Prod.snd x)))) ∧
 Heap.mk PT.nil (0 : Nat) =
 Heap.mk (PT.node (PT.node PT.nil (some (IObj.tip (List.length (Prod.snd (Prod.snd (Prod.snd x)))))) PT.nil) (some (IObj.tip (List.length (Prod.fst (Prod.snd (Prod.snd x))) * (5 : Nat)))) PT.nil) (2 : Nat) ∧
 ((decAcc w (Prod.fst x) (Prod.fst (Prod.snd x)) (Prod.fst (Prod.snd (Prod.snd x))) (Prod.snd (Prod.snd (Prod.snd x))) = decA w ∧ (↑(List.length w) : Int) - Prod.fst (Prod.snd x) < (↑(Prod.fst x) : Int)) ∧
 ((0 : Int) ≤ Prod.fst (Prod.snd x) ∧ Prod.fst (Prod.snd x) ≤ (↑(List.length w) : Int)) ∧
 List.length (Prod.snd (Prod.snd (Prod.snd x))) = List.length (Prod.fst (Prod.snd (Prod.snd x))) ∧ (↑(List.length (Prod.fst (Prod.snd (Prod.snd x)))) : Int) ≤ Prod.fst (Prod.snd x)) ∧
 True) ∧
 (∀ (x : Unit) (b : FF),
 True →
 brS (decide ((0 : Int) < (↑(List.length w) : Int)))
 (∃ (w_1 : List Int),
 (List.length w = List.length w_1 ∧ List.map (IV.int IntKind.u32) w = List.map (IV.int IntKind.u32) w_1) ∧
 ((∀ (x : Int), x ∈ w_1 → u32b x) ∧ (↑(List.length w_1) : Int) ≤ (4611686018427387904 : Int) ∧ (-9223372036854775808 : Int) ≤ (0 : Int)) ∧
 brS (Prod.snd (Prod.snd (decR w_1 (0 : Int))) != (0 : Int))
 (Q (IV.tuple [IV.vslice none (0 : Nat) (0 : Nat) (5 : Nat) [], IV.vslice none (0 : Nat) (0 : Nat) (1 : Nat) [], IV.int IntKind.i64 (Prod.snd (Prod.snd (decR w_1 (0 : Int))))]) h)
 ((∃ (x : Unit),
 some
 (TV.v
 (IV.vslice (some (0 : Nat)) (5 : Nat) (1 : Nat) (5 : Nat)
 [IV.int IntKind.i64 (In.op (Prod.fst (decR w_1 (0 : Int)))), IV.int IntKind.i64 (In.a (Prod.fst (decR w_1 (0 : Int)))), IV.int IntKind.i64 (In.b (Prod.fst (decR w_1 (0 : Int)))),
 IV.int IntKind.i64 (In.c (Prod.fst (decR w_1 (0 : Int)))), IV.int IntKind.i64 (In.n (Prod.fst (decR w_1 (0 : Int))))])) =
 some (TV.v IV.nilslice) ∧
 some (TV.v (IV.vslice (some ((0 : Nat) + (1 : Nat))) (1 : Nat) (1 : Nat) (1 : Nat) [IV.int IntKind.i64 (0 : Int)])) = some (TV.v IV.nilslice) ∧
 some (TV.v (IV.vslice none (0 : Nat) (List.length w) (1 : Nat) (List.map (IV.int IntKind.u32) w))) = some (TV.v (IV.vslice none (0 : Nat) (List.length w) (1 : Nat) (List.map (IV.int IntKind.u32) w))) ∧
 some (TV.v (IV.int IntKind.i64 (IntKind.wrap IntKind.i64 ((0 : Int) + Prod.fst (Prod.snd (decR w_1 (0 : Int))))))) = some (TV.v (IV.int IntKind.i64 (0 : Int))) ∧
 Heap.mk (PT.node (PT.node PT.nil (some (IObj.tip (1 : Nat))) PT.nil) (some (IObj.tip (5 : Nat))) PT.nil) ((0 : Nat) + (1 : Nat) + (1 : Nat)) = Heap.mk PT.nil (0 : Nat) ∧
 True ∧ List.length w + (1 : Nat) < List.length w + (1 : Nat)) ∨
 ∃ (x : Nat × Int × List In × List Int),
 some
 (TV.v
 (IV.vslice (some (0 : Nat)) (5 : Nat) (1 : Nat) (5 : Nat)
 [IV.int IntKind.i64 (In.op (Prod.fst (decR w_1 (0 : Int)))), IV.int IntKind.i64 (In.a (Prod.fst (decR w_1 (0 : Int)))), IV.int IntKind.i64 (In.b (Prod.fst (decR w_1 (0 : Int)))),
 IV.int IntKind.i64 (In.c (Prod.fst (decR w_1 (0 : Int)))), IV.int IntKind.i64 (In.n (Prod.fst (decR w_1 (0 : Int))))])) =
 some
 (TV.v
 (IV.vslice (some (0 : Nat)) (List.length (Prod.fst (Prod.snd (Prod.snd x))) * (5 : Nat)) (List.length (Prod.fst (Prod.snd (Prod.snd x)))) (5 : Nat) (List.flatMap cIns (Prod.fst (Prod.snd (Prod.snd x)))))) ∧
 some (TV.v (IV.vslice (some ((0 : Nat) + (1 : Nat))) (1 : Nat) (1 : Nat) (1 : Nat) [IV.int IntKind.i64 (0 : Int)])) =
 some
 (TV.v
 (IV.vslice (some (1 : Nat)) (List.length (Prod.snd (Prod.snd (Prod.snd x)))) (List.length (Prod.snd (Prod.snd (Prod.snd x)))) (1 : Nat) (List.map (IV.int IntKind.i64) (Prod.snd (Prod.snd (Prod.snd x)))))) ∧
 some (TV.v (IV.vslice none (0 : Nat) (List.length w) (1 : Nat) (List.map (IV.int IntKind.u32) w))) = some (TV.v (IV.vslice none (0 : Nat) (List.length w) (1 : Nat) (List.map (IV.int IntKind.u32) w))) ∧
 some (TV.v (IV.int IntKind.i64 (IntKind.wrap IntKind.i64 ((0 : Int) + Prod.fst (Prod.snd (decR w_1 (0 : Int))))))) = some (TV.v (IV.int IntKind.i64 (Prod.fst (Prod.snd x)))) ∧
 Heap.mk (PT.node (PT.node PT.nil (some (IObj.tip (1 : Nat))) PT.nil) (some (IObj.tip (5 : Nat))) PT.nil) ((0 : Nat) + (1 : Nat) + (1 : Nat)) =
 Heap.mk (PT.node (PT.node PT.nil (some (IObj.tip (List.length (Prod.snd (Prod.snd (Prod.snd x)))))) PT.nil) (some (IObj.tip (List.length (Prod.fst (Prod.snd (Prod.snd x))) * (5 : Nat)))) PT.nil)
 (2 : Nat) ∧
 ((decAcc w (Prod.fst x) (Prod.fst (Prod.snd x)) (Prod.fst (Prod.snd (Prod.snd x))) (Prod.snd (Prod.snd (Prod.snd x))) = decA w ∧ (↑(List.length w) : Int) - Prod.fst (Prod.snd x) < (↑(Prod.fst x) : Int)) ∧
 ((0 : Int) ≤ Prod.fst (Prod.snd x) ∧ Prod.fst (Prod.snd x) ≤ (↑(List.length w) : Int)) ∧
 List.length (Prod.snd (Prod.snd (Prod.snd x))) = List.length (Prod.fst (Prod.snd (Prod.snd x))) ∧ (↑(List.length (Prod.fst (Prod.snd (Prod.snd x)))) : Int) ≤ Prod.fst (Prod.snd x)) ∧
 Int.toNat ((↑(List.length w) : Int) - Prod.fst (Prod.snd x)) < List.length w + (1 : Nat)))
 (Q (IV.tuple [IV.vslice none (0 : Nat) (0 : Nat) (5 : Nat) [], IV.vslice none (0 : Nat) (0 : Nat) (1 : Nat) [], IV.int IntKind.i64 (0 : Int)]) h)) ∧
 ∀ (x : Nat × Int × List In × List Int) (b : FF),
 (decAcc w (Prod.fst x) (Prod.fst (Prod.snd x)) (Prod.fst (Prod.snd (Prod.snd x))) (Prod.snd (Prod.snd (Prod.snd x))) = decA w ∧ (↑(List.length w) : Int) - Prod.fst (Prod.snd x) < (↑(Prod.fst x) : Int)) ∧
 ((0 : Int) ≤ Prod.fst (Prod.snd x) ∧ Prod.fst (Prod.snd x) ≤ (↑(List.length w) : Int)) ∧
 List.length (Prod.snd (Prod.snd (Prod.snd x))) = List.length (Prod.fst (Prod.snd (Prod.snd x))) ∧ (↑(List.length (Prod.fst (Prod.snd (Prod.snd x)))) : Int) ≤ Prod.fst (Prod.snd x) →
 brS (decide (Prod.fst (Prod.snd x) < (↑(List.length w) : Int)))
 (∃ (w_1 : List Int),
 (List.length w = List.length w_1 ∧ List.map (IV.int IntKind.u32) w = List.map (IV.int IntKind.u32) w_1) ∧
 ((∀ (x : Int), x ∈ w_1 → u32b x) ∧ (↑(List.length w_1) : Int) ≤ (4611686018427387904 : Int) ∧ (-9223372036854775808 : Int) ≤ Prod.fst (Prod.snd x)) ∧
 brS (Prod.snd (Prod.snd (decR w_1 (Prod.fst (Prod.snd x)))) != (0 : Int))
 (Q (IV.tuple [IV.vslice none (0 : Nat) (0 : Nat) (5 : Nat) [], IV.vslice none (0 : Nat) (0 : Nat) (1 : Nat) [], IV.int IntKind.i64 (Prod.snd (Prod.snd (decR w_1 (Prod.fst (Prod.snd x)))))]) h)
 (needS
 (Nat.beq (List.length (Prod.fst (Prod.snd (Prod.snd x))) * (5 : Nat)) (List.length (Prod.fst (Prod.snd (Prod.snd x))) * (5 : Nat)) &&
 Nat.ble ((List.length (Prod.fst (Prod.snd (Prod.snd x))) + (1 : Nat)) * (40 : Nat)) (140737488355328 : Nat))
 (needS
 (Nat.beq (List.length (Prod.snd (Prod.snd (Prod.snd x)))) (List.length (Prod.snd (Prod.snd (Prod.snd x)))) &&
 Nat.ble ((List.length (Prod.snd (Prod.snd (Prod.snd x))) + (1 : Nat)) * (8 : Nat)) (140737488355328 : Nat))
 ((∃ (x_1 : Unit),
 some
 (TV.v
 (IV.vslice (some (0 : Nat)) (List.length (Prod.fst (Prod.snd (Prod.snd x))) * (5 : Nat) + (5 : Nat)) (List.length (Prod.fst (Prod.snd (Prod.snd x))) + (1 : Nat)) (5 : Nat)
 (List.flatMap cIns (Prod.fst (Prod.snd (Prod.snd x))) ++
 [IV.int IntKind.i64 (In.op (Prod.fst (decR w_1 (Prod.fst (Prod.snd x))))), IV.int IntKind.i64 (In.a (Prod.fst (decR w_1 (Prod.fst (Prod.snd x))))),
 IV.int IntKind.i64 (In.b (Prod.fst (decR w_1 (Prod.fst (Prod.snd x))))), IV.int IntKind.i64 (In.c (Prod.fst (decR w_1 (Prod.fst (Prod.snd x))))),
 IV.int IntKind.i64 (In.n (Prod.fst (decR w_1 (Prod.fst (Prod.snd x)))))]))) =
 some (TV.v IV.nilslice) ∧
 some
 (TV.v
 (IV.vslice (some (1 : Nat)) (List.length (Prod.snd (Prod.snd (Prod.snd x))) + (1 : Nat)) (List.length (Prod.snd (Prod.snd (Prod.snd x))) + (1 : Nat)) (1 : Nat)
 (List.map (IV.int IntKind.i64) (Prod.snd (Prod.snd (Prod.snd x))) ++ [IV.int IntKind.i64 (Prod.fst (Prod.snd x))]))) =
 some (TV.v IV.nilslice) ∧
 some (TV.v (IV.vslice none (0 : Nat) (List.length w) (1 : Nat) (List.map (IV.int IntKind.u32) w))) = some (TV.v (IV.vslice none (0 : Nat) (List.length w) (1 : Nat) (List.map (IV.int IntKind.u32) w))) ∧
 some (TV.v (IV.int IntKind.i64 (IntKind.wrap IntKind.i64 (Prod.fst (Prod.snd x) + Prod.fst (Prod.snd (decR w_1 (Prod.fst (Prod.snd x)))))))) = some (TV.v (IV.int IntKind.i64 (0 : Int))) ∧
 Heap.mk
 (PT.node (PT.node PT.nil (some (IObj.tip (List.length (Prod.snd (Prod.snd (Prod.snd x))) + (1 : Nat)))) PT.nil)
 (some (IObj.tip (List.length (Prod.fst (Prod.snd (Prod.snd x))) * (5 : Nat) + (5 : Nat)))) PT.nil)
 (2 : Nat) =
 Heap.mk PT.nil (0 : Nat) ∧
 True ∧ List.length w + (1 : Nat) < Int.toNat ((↑(List.length w) : Int) - Prod.fst (Prod.snd x))) ∨
 ∃ (x_1 : Nat × Int × List In × List Int),
 some
 (TV.v
 (IV.vslice (some (0 : Nat)) (List.length (Prod.fst (Prod.snd (Prod.snd x))) * (5 : Nat) + (5 : Nat)) (List.length (Prod.fst (Prod.snd (Prod.snd x))) + (1 : Nat)) (5 : Nat)
 (List.flatMap cIns (Prod.fst (Prod.snd (Prod.snd x))) ++
 [IV.int IntKind.i64 (In.op (Prod.fst (decR w_1 (Prod.fst (Prod.snd x))))), IV.int IntKind.i64 (In.a (Prod.fst (decR w_1 (Prod.fst (Prod.snd x))))),
 IV.int IntKind.i64 (In.b (Prod.fst (decR w_1 (Prod.fst (Prod.snd x))))), IV.int IntKind.i64 (In.c (Prod.fst (decR w_1 (Prod.fst (Prod.snd x))))),
 IV.int IntKind.i64 (In.n (Prod.fst (decR w_1 (Prod.fst (Prod.snd x)))))]))) =
 some
 (TV.v
 (IV.vslice (some (0 : Nat)) (List.length (Prod.fst (Prod.snd (Prod.snd x_1))) * (5 : Nat)) (List.length (Prod.fst (Prod.snd (Prod.snd x_1)))) (5 : Nat)
 (List.flatMap cIns (Prod.fst (Prod.snd (Prod.snd x_1)))))) ∧
 some
 (TV.v
 (IV.vslice (some (1 : Nat)) (List.length (Prod.snd (Prod.snd (Prod.snd x))) + (1 : Nat)) (List.length (Prod.snd (Prod.snd (Prod.snd x))) + (1 : Nat)) (1 : Nat)
 (List.map (IV.int IntKind.i64) (Prod.snd (Prod.snd (Prod.snd x))) ++ [IV.int IntKind.i64 (Prod.fst (Prod.snd x))]))) =
 some
 (TV.v
 (IV.vslice (some (1 : Nat)) (List.length (Prod.snd (Prod.snd (Prod.snd x_1)))) (List.length (Prod.snd (Prod.snd (Prod.snd x_1)))) (1 : Nat)
 (List.map (IV.int IntKind.i64) (Prod.snd (Prod.snd (Prod.snd x_1)))))) ∧
 some (TV.v (IV.vslice none (0 : Nat) (List.length w) (1 : Nat) (List.map (IV.int IntKind.u32) w))) = some (TV.v (IV.vslice none (0 : Nat) (List.length w) (1 : Nat) (List.map (IV.int IntKind.u32) w))) ∧
 some (TV.v (IV.int IntKind.i64 (IntKind.wrap IntKind.i64 (Prod.fst (Prod.snd x) + Prod.fst (Prod.snd (decR w_1 (Prod.fst (Prod.snd x)))))))) = some (TV.v (IV.int IntKind.i64 (Prod.fst (Prod.snd x_1)))) ∧
 Heap.mk
 (PT.node (PT.node PT.nil (some (IObj.tip (List.length (Prod.snd (Prod.snd (Prod.snd x))) + (1 : Nat)))) PT.nil)
 (some (IObj.tip (List.length (Prod.fst (Prod.snd (Prod.snd x))) * (5 : Nat) + (5 : Nat)))) PT.nil)
 (2 : Nat) =
 Heap.mk (PT.node (PT.node PT.nil (some (IObj.tip (List.length (Prod.snd (Prod.snd (Prod.snd x_1)))))) PT.nil) (some (IObj.tip (List.length (Prod.fst (Prod.snd (Prod.snd x_1))) * (5 : Nat)))) PT.nil)
 (2 : Nat) ∧
 ((decAcc w (Prod.fst x_1) (Prod.fst (Prod.snd x_1)) (Prod.fst (Prod.snd (Prod.snd x_1))) (Prod.snd (Prod.snd (Prod.snd x_1))) = decA w ∧
 (↑(List.length w) : Int) - Prod.fst (Prod.snd x_1) < (↑(Prod.fst x_1) : Int)) ∧
 ((0 : Int) ≤ Prod.fst (Prod.snd x_1) ∧ Prod.fst (Prod.snd x_1) ≤ (↑(List.length w) : Int)) ∧
 List.length (Prod.snd (Prod.snd (Prod.snd x_1))) = List.length (Prod.fst (Prod.snd (Prod.snd x_1))) ∧ (↑(List.length (Prod.fst (Prod.snd (Prod.snd x_1)))) : Int) ≤ Prod.fst (Prod.snd x_1)) ∧
 Int.toNat ((↑(List.length w) : Int) - Prod.fst (Prod.snd x_1)) < Int.toNat ((↑(List.length w) : Int) - Prod.fst (Prod.snd x))))))
 (needS
 (pureL
 [IV.vslice none (0 : Nat) (List.length (Prod.fst (Prod.snd (Prod.snd x)))) (5 : Nat) (List.flatMap cIns (Prod.fst (Prod.snd (Prod.snd x)))),
 IV.vslice none (0 : Nat) (List.length (Prod.snd (Prod.snd (Prod.snd x)))) (1 : Nat) (List.map (IV.int IntKind.i64) (Prod.snd (Prod.snd (Prod.snd x)))), IV.int IntKind.i64 (0 : Int)])
 (Q
 (IV.tuple
 [IV.vslice none (0 : Nat) (List.length (Prod.fst (Prod.snd (Prod.snd x)))) (5 : Nat) (List.flatMap cIns (Prod.fst (Prod.snd (Prod.snd x)))),
 IV.vslice none (0 : Nat) (List.length (Prod.snd (Prod.snd (Prod.snd x)))) (1 : Nat) (List.map (IV.int IntKind.i64) (Prod.snd (Prod.snd (Prod.snd x)))), IV.int IntKind.i64 (0 : Int)])
 h)))) := by kernel_rfl
set_option maxHeartbeats 4000000 in
theorem sRDecAll : ∀ xs h Q, kRDecAll xs h Q → CallW env 51 xs h Q := by
  intro xs h Q hk
  unfold kRDecAll at hk
  split at hk
  · rename_i e1 n1 c1
    obtain ⟨w, ⟨rfl, rfl⟩, hb, hk⟩ := hk
    refine dF_run (okDecAll) (vRDecAll w e1 h Q) ?_
    obtain ⟨hw, hl⟩ := hb
    refine needS_intro (by simp only [pureL, pureB, pureL_ints, Bool.and_true]) ⟨.inl ⟨(), rfl, rfl, rfl, rfl, rfl, trivial, trivial⟩, fun _ _ _ => ?_, fun x _ hx => ?_⟩
    · refine brS_intro (fun c1 => ?_) (fun c1 => ?_)
      · rw [decide_eq_true_eq] at c1
        have hA : decA w = if (decR w 0).2.2 = 0 then decAcc w w.length (0 + (decR w 0).2.1) ([] ++ [(decR w 0).1]) ([] ++ [0]) else ([], [], (decR w 0).2.2) := by
          show decAcc w (w.length + 1) 0 [] [] = _
          rw [decAcc_succ, if_pos c1]
        refine ⟨w, ⟨rfl, rfl⟩, ⟨hw, by omega, by omega⟩, brS_intro (fun c2 => ?_) (fun c2 => ?_)⟩
        · rw [bne_iff_ne] at c2
          rw [hA, if_neg c2] at hk
          exact hk
        · rw [bne_eq_false_iff_eq] at c2
          obtain ⟨p1, p2, p3⟩ := dec_pos hw c2
          rw [hA, if_pos c2] at hk
          refine .inr ⟨(w.length, 0 + (decR w 0).2.1, [(decR w 0).1], [0]), rfl, rfl, rfl, ?_, rfl, ⟨⟨?_, by simp only; omega⟩, ⟨by simp only; omega, by simp only; omega⟩, rfl, by simp only [List.length_cons, List.length_nil]; omega⟩, by simp only; omega⟩
          · simp only
            rw [IntWalk.i64_in _ (by omega)]
          · simp only
            rw [hA, if_pos c2]
            rfl
      · rw [decide_eq_false_iff_not] at c1
        have hA : decA w = ([], [], 0) := by
          unfold decA decAcc
          rw [if_neg c1]
        rw [hA] at hk
        exact hk
    · obtain ⟨n, k, acc, pl⟩ := x
      obtain ⟨⟨hA, hn⟩, ⟨h0, h1⟩, hlen, hak⟩ := hx
      simp only at hA hn h0 h1 hlen hak ⊢
      refine brS_intro (fun c1 => ?_) (fun c1 => ?_)
      · rw [decide_eq_true_eq] at c1
        obtain ⟨m, rfl⟩ : ∃ m, n = m + 1 := ⟨n - 1, by omega⟩
        have hA2 : decA w = if (decR w k).2.2 = 0 then decAcc w m (k + (decR w k).2.1) (acc ++ [(decR w k).1]) (pl ++ [k]) else ([], [], (decR w k).2.2) := by
          rw [← hA, decAcc_succ, if_pos c1]
        refine ⟨w, ⟨rfl, rfl⟩, ⟨hw, by omega, by omega⟩, brS_intro (fun c2 => ?_) (fun c2 => ?_)⟩
        · rw [bne_iff_ne] at c2
          rw [hA2, if_neg c2] at hk
          exact hk
        · rw [bne_eq_false_iff_eq] at c2
          obtain ⟨p1, p2, p3⟩ := dec_pos hw c2
          refine needS_intro (by simp [nbeq_t]; omega) (needS_intro (by simp [nbeq_t]; omega) (.inr ⟨(m, k + (decR w k).2.1, acc ++ [(decR w k).1], pl ++ [k]), ?_, ?_, (by first | rfl | trivial), ?_, ?_, ⟨⟨?_, by simp only; omega⟩, ⟨by simp only; omega, by simp only; omega⟩, ?_, ?_⟩, by simp only; omega⟩))
          · simp [Nat.add_mul, cIns]
          · simp
          · simp only
            rw [IntWalk.i64_in _ (by omega)]
          · simp [Nat.add_mul]
          · simp only
            rw [hA2, if_pos c2]
          · simp [hlen]
          · simp only [List.length_append, List.length_cons, List.length_nil]; omega
      · rw [decide_eq_false_iff_not] at c1
        have hA2 : decA w = (acc, pl, 0) := by
          rw [← hA]
          cases n with
          | zero => omega
          | succ n => unfold decAcc; rw [if_neg c1]
        rw [hA2] at hk
        exact needS_intro (by simp only [pureL, pureB, pureL_in, pureL_ints, Bool.and_true]) hk
  · exact hk.elim
def cRDecAll := addC 51 kRDecAll cDecAll
theorem okRDecAll : Sound env cRDecAll := sound_add sRDecAll (okDecAll)

end Go.Proofs.YtlenjfbmpekabaaDoor
