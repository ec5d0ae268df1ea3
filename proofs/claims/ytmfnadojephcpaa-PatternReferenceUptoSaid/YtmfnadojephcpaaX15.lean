/-
  Patterns: the generated nodes.
  Conditions: none.
-/
import Derived.Test.YtmfnadojephcpaaL15
import Derived.Test.YtmfnadojephcpaaV15
import Derived.KernelRfl
set_option linter.unusedVariables false
set_option linter.unusedSimpArgs false
namespace Go.Proofs.Ytmfnadojephcpaa
open Go.Pv Go.M15
def noInv (b : Bool) (l : List Int) : Inv' := (atX ND (fun x => [(0, .v (.vslice none 0 (l).length 1 ((l).map (IV.int .i64)))), (1, .v (.bool b)), (6, .v (.int .i64 x.i)), (5, .v (.vslice x.io x.e x.x.length 3 (x.x.flatMap cN)))]) (fun x => []) (fun x => x.g) (fun x => x.i ≤ 14 ∧ OV x) (fun x => (14 - x.i) * 10))
def naInv (b : Bool) (l : List Int) : Inv' := (atX ND (fun x => [(0, .v (.vslice none 0 (l).length 1 ((l).map (IV.int .i64)))), (1, .v (.bool b)), (6, .v (.int .i64 x.i)), (5, .v (.vslice x.io x.e x.x.length 3 (x.x.flatMap cN))), (7, .v (.ptr x.rd 0)), (8, .l 8 0)]) (fun x => [(8, [.int .i64 x.op, .int .i64 x.im, .nilslice])]) (fun x => x.g) (fun x => (x.i < 14 ∧ x.i < l.length) ∧ OR x ∧ OI x.op x.im) (fun x => (14 - x.i) * 10))
def niInv (b : Bool) (l : List Int) : Inv' := (atX ND (fun x => [(0, .v (.vslice none 0 (l).length 1 ((l).map (IV.int .i64)))), (1, .v (.bool b)), (6, .v (.int .i64 x.i)), (5, .v (.vslice x.io x.e x.x.length 3 (x.x.flatMap cN))), (7, .v (.ptr x.rd 0)), (8, .l 8 0), (9, .v (.int .i64 (ar x.op))), (11, .v (.int .i64 x.ks.length))]) (fun x => [(8, [.int .i64 x.op, .int .i64 x.im, x.kv])]) (fun x => x.g) (fun x => (x.i < 14 ∧ x.i < l.length) ∧ OR x ∧ OI x.op x.im ∧ KV x) (fun x => (14 - x.i) * 10 + (3 - x.ks.length)))
def ncInv (b : Bool) (l : List Int) : Inv' := (atX ND (fun x => [(0, .v (.vslice none 0 (l).length 1 ((l).map (IV.int .i64)))), (1, .v (.bool b)), (6, .v (.int .i64 x.i)), (5, .v (.vslice x.io x.e x.x.length 3 (x.x.flatMap cN))), (8, .l 8 0)]) (fun x => [(8, [.int .i64 x.op, .int .i64 x.im, x.kv])]) (fun x => x.g) (fun x => (x.i < 14 ∧ x.i < l.length) ∧ OV x ∧ KV x ∧ OI x.op 0 ∧ (x.ks.length : Int) = ar x.op ∧ ((x.op ≠ 27 ∧ i64b x.im ∧ (x.op = 1 ∨ x.im = 0)) ∨ (x.op = 27 ∧ 1 ≤ x.im ∧ x.im ≤ 2))) (fun x => (14 - x.i) * 10))
def nbInv (b : Bool) (l : List Int) : Inv' := .or (atX ND (fun x => [(0, .v (.vslice none 0 (l).length 1 ((l).map (IV.int .i64)))), (1, .v (.bool b)), (6, .v (.int .i64 x.i)), (5, .v (.vslice x.io x.e x.x.length 3 (x.x.flatMap cN))), (8, .l 8 0)]) (fun x => [(8, [.int .i64 x.op, .int .i64 x.im, .nilslice])]) (fun x => x.g) (fun x => (x.i < 14 ∧ x.i < l.length) ∧ OV x ∧ FN x.x x.op x.im [] ∧ x.ks = []) (fun x => (14 - x.i) * 10)) (atX ND (fun x => [(0, .v (.vslice none 0 (l).length 1 ((l).map (IV.int .i64)))), (1, .v (.bool b)), (6, .v (.int .i64 x.i)), (5, .v (.vslice x.io x.e x.x.length 3 (x.x.flatMap cN))), (8, .l 8 0)]) (fun x => [(8, [.int .i64 x.op, .int .i64 x.im, .vslice (some x.rd) x.ks.length x.ks.length 1 (x.ks.map (IV.int .i64))])]) (fun x => x.g) (fun x => (x.i < 14 ∧ x.i < l.length) ∧ OV x ∧ FN x.x x.op x.im x.ks) (fun x => (14 - x.i) * 10))
def kNodes (xs : List IV) (h : Heap) (K : IV → Heap → Prop) : Prop := match xs with
  | [.vslice none e1 n1 1 c1, .bool b] => ∃ l : List Int, (n1 = l.length ∧ c1 = l.map (IV.int .i64)) ∧ ((∀ x ∈ l, i64b x) ∧ l.length ≤ 9223372036854775807) ∧ ∀ x : List Nd, NW 14 x → K (.vslice none 0 (x).length 3 ((x).flatMap cN)) h
  | _ => False
set_option maxRecDepth 100000 in
theorem vNodes (l : List Int) (b : Bool) (e1 : Nat) (h : Heap) (Q : IV → Heap → Prop) : dF (stdS cCont) env 15 noU (icA 4 (noInv b l) (ic1 1000014 (niInv b l))) (icA 1000010 (naInv b l) (icA 1000012 (naInv b l) (icA 1000019 (ncInv b l) (ic1 1000021 (nbInv b l))))) [.vslice none e1 (l).length 1 ((l).map (IV.int .i64)), .bool b] h Q = (
  needS (pureL [IV.vslice none (0 : Nat) (List.length l) (1 : Nat) (List.map (IV.int IntKind.i64) l), IV.bool b])
 ((∃ (x : ND),
 some (TV.v (IV.vslice none (0 : Nat) (List.length l) (1 : Nat) (List.map (IV.int IntKind.i64) l))) = some (TV.v (IV.vslice none (0 : Nat) (List.length l) (1 : Nat) (List.map (IV.int IntKind.i64) l))) ∧
 some (TV.v (IV.bool b)) = some (TV.v (IV.bool b)) ∧
 some (TV.v (IV.int IntKind.i64 (0 : Int))) = some (TV.v (IV.int IntKind.i64 (↑(ND.i x) : Int))) ∧
 some
 (TV.v
 (IV.vslice none (1 : Nat) (3 : Nat) (3 : Nat)
 [IV.int IntKind.i64 (2 : Int), IV.int IntKind.i64 (0 : Int), IV.vslice none (0 : Nat) (0 : Nat) (1 : Nat) [], IV.int IntKind.i64 (2 : Int), IV.int IntKind.i64 (1 : Int), IV.vslice none (0 : Nat) (0 : Nat) (1 : Nat) [],
 IV.int IntKind.i64 (26 : Int), IV.int IntKind.i64 (0 : Int), IV.vslice none (0 : Nat) (0 : Nat) (1 : Nat) []])) =
 some (TV.v (IV.vslice (ND.io x) (ND.e x) (List.length (ND.x x)) (3 : Nat) (List.flatMap cN (ND.x x)))) ∧
 Heap.mk PT.nil (0 : Nat) = ND.g x ∧ (ND.i x ≤ (14 : Nat) ∧ OV x) ∧ True) ∧
 ∀ (x : ND) (b_1 : FF),
 ND.i x ≤ (14 : Nat) ∧ OV x →
 brS (decide ((↑(ND.i x) : Int) < (↑(List.length l) : Int)))
 (brS (decide ((↑(ND.i x) : Int) < (14 : Int)))
 (needS (decide ((0 : Int) ≤ (↑(ND.i x) : Int)) && decide ((↑(ND.i x) : Int) < (↑(List.length l) : Int)))
 (ldIS IntKind.i64 (List.map (IV.int IntKind.i64) l) (Int.toNat (↑(ND.i x) : Int) * (1 : Nat)) fun (n0 : Int) =>
 needS (decide ((0 : Int) ≤ (↑(ND.i x) : Int)) && decide ((↑(ND.i x) : Int) < (↑(List.length l) : Int)))
 (ldIS IntKind.i64 (List.map (IV.int IntKind.i64) l) (Int.toNat (↑(ND.i x) : Int) * (1 : Nat)) fun (n1 : Int) =>
 needS (decide ((0 : Int) ≤ (↑(ND.i x) : Int)) && decide ((↑(ND.i x) : Int) < (↑(List.length l) : Int)))
 (ldIS IntKind.i64 (List.map (IV.int IntKind.i64) l) (Int.toNat (↑(ND.i x) : Int) * (1 : Nat)) fun (n2 : Int) =>
 needS (decide ((0 : Int) ≤ (↑(ND.i x) : Int)) && decide ((↑(ND.i x) : Int) < (↑(List.length l) : Int)))
 (ldIS IntKind.i64 (List.map (IV.int IntKind.i64) l) (Int.toNat (↑(ND.i x) : Int) * (1 : Nat)) fun (n3 : Int) =>
 ((0 : Int) < (19 : Int) ∧ (19 : Int) < (4611686018427387904 : Int)) ∧
 ∃ (M : Nat),
 brS (!b)
 (needS (decide ((0 : Int) ≤ (↑(ND.i x) : Int)) && decide ((↑(ND.i x) : Int) < (↑(List.length l) : Int)))
 (ldIS IntKind.i64 (List.map (IV.int IntKind.i64) l) (Int.toNat (↑(ND.i x) : Int) * (1 : Nat)) fun (n4 : Int) =>
 ((0 : Int) < (9 : Int) ∧ (9 : Int) < (4611686018427387904 : Int)) ∧
 brS (decide (n4 % (9 : Int) > (5 : Int)))
 (needS (decide ((0 : Int) ≤ (↑(ND.i x) : Int)) && decide ((↑(ND.i x) : Int) < (↑(List.length l) : Int)))
 (ldIS IntKind.i64 (List.map (IV.int IntKind.i64) l) (Int.toNat (↑(ND.i x) : Int) * (1 : Nat)) fun (n5 : Int) =>
 ((0 : Int) < (5 : Int) ∧ (5 : Int) < (4611686018427387904 : Int)) ∧
 needS (decide ((0 : Int) ≤ IntKind.wrap IntKind.i64 (Int.tdiv n5 (9 : Int)) % (5 : Int)) && decide (IntKind.wrap IntKind.i64 (Int.tdiv n5 (9 : Int)) % (5 : Int) < (5 : Int)))
 (ldIS IntKind.i64 [IV.int IntKind.i64 (23 : Int), IV.int IntKind.i64 (27 : Int), IV.int IntKind.i64 (28 : Int), IV.int IntKind.i64 (29 : Int), IV.int IntKind.i64 (24 : Int)]
 (Int.toNat (IntKind.wrap IntKind.i64 (Int.tdiv n5 (9 : Int)) % (5 : Int)) * (1 : Nat)) fun (n6 : Int) =>
 ∃ (x_1 : ND),
 some (TV.v (IV.vslice none (0 : Nat) (List.length l) (1 : Nat) (List.map (IV.int IntKind.i64) l))) =
 some (TV.v (IV.vslice none (0 : Nat) (List.length l) (1 : Nat) (List.map (IV.int IntKind.i64) l))) ∧
 some (TV.v (IV.bool b)) = some (TV.v (IV.bool b)) ∧
 some (TV.v (IV.int IntKind.i64 (↑(ND.i x) : Int))) = some (TV.v (IV.int IntKind.i64 (↑(ND.i x_1) : Int))) ∧
 some (TV.v (IV.vslice (ND.io x) (ND.e x) (List.length (ND.x x)) (3 : Nat) (List.flatMap cN (ND.x x)))) =
 some (TV.v (IV.vslice (ND.io x_1) (ND.e x_1) (List.length (ND.x x_1)) (3 : Nat) (List.flatMap cN (ND.x x_1)))) ∧
 some (TV.v (IV.ptr (Heap.next (ND.g x)) (0 : Nat))) = some (TV.v (IV.ptr (ND.rd x_1) (0 : Nat))) ∧
 some (TV.l (8 : Nat) (0 : Nat)) = some (TV.l (8 : Nat) (0 : Nat)) ∧
 some [IV.int IntKind.i64 n6, IV.int IntKind.i64 (0 : Int), IV.nilslice] = some [IV.int IntKind.i64 (ND.op x_1), IV.int IntKind.i64 (ND.im x_1), IV.nilslice] ∧
 Heap.push (ND.g x)
 (IObj.cells
 [IV.vslice none (1 : Nat) (3 : Nat) (1 : Nat)
 [IV.int IntKind.i64 (IntKind.wrap IntKind.i64 (Int.tdiv n0 (7 : Int))), IV.int IntKind.i64 (IntKind.wrap IntKind.i64 (Int.tdiv n1 (101 : Int))),
 IV.int IntKind.i64 (IntKind.wrap IntKind.i64 (Int.tdiv n2 (1009 : Int)))],
 IV.int IntKind.i64 (0 : Int)]) =
 ND.g x_1 ∧
 ((ND.i x_1 < (14 : Nat) ∧ ND.i x_1 < List.length l) ∧ OR x_1 ∧ OI (ND.op x_1) (ND.im x_1)) ∧ ((14 : Nat) - ND.i x_1) * (10 : Nat) ≤ M)))
 (∃ (x_1 : ND),
 some (TV.v (IV.vslice none (0 : Nat) (List.length l) (1 : Nat) (List.map (IV.int IntKind.i64) l))) =
 some (TV.v (IV.vslice none (0 : Nat) (List.length l) (1 : Nat) (List.map (IV.int IntKind.i64) l))) ∧
 some (TV.v (IV.bool b)) = some (TV.v (IV.bool b)) ∧
 some (TV.v (IV.int IntKind.i64 (↑(ND.i x) : Int))) = some (TV.v (IV.int IntKind.i64 (↑(ND.i x_1) : Int))) ∧
 some (TV.v (IV.vslice (ND.io x) (ND.e x) (List.length (ND.x x)) (3 : Nat) (List.flatMap cN (ND.x x)))) =
 some (TV.v (IV.vslice (ND.io x_1) (ND.e x_1) (List.length (ND.x x_1)) (3 : Nat) (List.flatMap cN (ND.x x_1)))) ∧
 some (TV.v (IV.ptr (Heap.next (ND.g x)) (0 : Nat))) = some (TV.v (IV.ptr (ND.rd x_1) (0 : Nat))) ∧
 some (TV.l (8 : Nat) (0 : Nat)) = some (TV.l (8 : Nat) (0 : Nat)) ∧
 some [IV.int IntKind.i64 (IntKind.wrap IntKind.i64 ((4 : Int) + n3 % (19 : Int))), IV.int IntKind.i64 (0 : Int), IV.nilslice] =
 some [IV.int IntKind.i64 (ND.op x_1), IV.int IntKind.i64 (ND.im x_1), IV.nilslice] ∧
 Heap.push (ND.g x)
 (IObj.cells
 [IV.vslice none (1 : Nat) (3 : Nat) (1 : Nat)
 [IV.int IntKind.i64 (IntKind.wrap IntKind.i64 (Int.tdiv n0 (7 : Int))), IV.int IntKind.i64 (IntKind.wrap IntKind.i64 (Int.tdiv n1 (101 : Int))),
 IV.int IntKind.i64 (IntKind.wrap IntKind.i64 (Int.tdiv n2 (1009 : Int)))],
 IV.int IntKind.i64 (0 : Int)]) =
 ND.g x_1 ∧
 ((ND.i x_1 < (14 : Nat) ∧ ND.i x_1 < List.length l) ∧ OR x_1 ∧ OI (ND.op x_1) (ND.im x_1)) ∧ ((14 : Nat) - ND.i x_1) * (10 : Nat) ≤ M)))
 (∃ (x_1 : ND),
 some (TV.v (IV.vslice none (0 : Nat) (List.length l) (1 : Nat) (List.map (IV.int IntKind.i64) l))) = some (TV.v (IV.vslice none (0 : Nat) (List.length l) (1 : Nat) (List.map (IV.int IntKind.i64) l))) ∧
 some (TV.v (IV.bool b)) = some (TV.v (IV.bool b)) ∧
 some (TV.v (IV.int IntKind.i64 (↑(ND.i x) : Int))) = some (TV.v (IV.int IntKind.i64 (↑(ND.i x_1) : Int))) ∧
 some (TV.v (IV.vslice (ND.io x) (ND.e x) (List.length (ND.x x)) (3 : Nat) (List.flatMap cN (ND.x x)))) =
 some (TV.v (IV.vslice (ND.io x_1) (ND.e x_1) (List.length (ND.x x_1)) (3 : Nat) (List.flatMap cN (ND.x x_1)))) ∧
 some (TV.v (IV.ptr (Heap.next (ND.g x)) (0 : Nat))) = some (TV.v (IV.ptr (ND.rd x_1) (0 : Nat))) ∧
 some (TV.l (8 : Nat) (0 : Nat)) = some (TV.l (8 : Nat) (0 : Nat)) ∧
 some [IV.int IntKind.i64 (IntKind.wrap IntKind.i64 ((4 : Int) + n3 % (19 : Int))), IV.int IntKind.i64 (0 : Int), IV.nilslice] =
 some [IV.int IntKind.i64 (ND.op x_1), IV.int IntKind.i64 (ND.im x_1), IV.nilslice] ∧
 Heap.push (ND.g x)
 (IObj.cells
 [IV.vslice none (1 : Nat) (3 : Nat) (1 : Nat)
 [IV.int IntKind.i64 (IntKind.wrap IntKind.i64 (Int.tdiv n0 (7 : Int))), IV.int IntKind.i64 (IntKind.wrap IntKind.i64 (Int.tdiv n1 (101 : Int))),
 IV.int IntKind.i64 (IntKind.wrap IntKind.i64 (Int.tdiv n2 (1009 : Int)))],
 IV.int IntKind.i64 (0 : Int)]) =
 ND.g x_1 ∧
 ((ND.i x_1 < (14 : Nat) ∧ ND.i x_1 < List.length l) ∧ OR x_1 ∧ OI (ND.op x_1) (ND.im x_1)) ∧ ((14 : Nat) - ND.i x_1) * (10 : Nat) ≤ M) ∧
 ∀ (x_1 : ND) (b_2 : FF),
 (ND.i x_1 < (14 : Nat) ∧ ND.i x_1 < List.length l) ∧ OR x_1 ∧ OI (ND.op x_1) (ND.im x_1) →
 ((14 : Nat) - ND.i x_1) * (10 : Nat) ≤ M →
 ∃ (M : Nat),
 needS (decide ((0 : Int) ≤ (↑(ND.i x_1) : Int)) && decide ((↑(ND.i x_1) : Int) < (↑(List.length l) : Int)))
 (ldIS IntKind.i64 (List.map (IV.int IntKind.i64) l) (Int.toNat (↑(ND.i x_1) : Int) * (1 : Nat)) fun (n7 : Int) =>
 ((0 : Int) < (11 : Int) ∧ (11 : Int) < (4611686018427387904 : Int)) ∧
 brS (n7 % (11 : Int) == (0 : Int))
 (needS (decide ((0 : Int) ≤ (↑(ND.i x_1) : Int)) && decide ((↑(ND.i x_1) : Int) < (↑(List.length l) : Int)))
 (ldIS IntKind.i64 (List.map (IV.int IntKind.i64) l) (Int.toNat (↑(ND.i x_1) : Int) * (1 : Nat)) fun (n8 : Int) =>
 needS (decide ((0 : Int) ≤ (↑(ND.i x_1) : Int)) && decide ((↑(ND.i x_1) : Int) < (↑(List.length l) : Int)))
 (ldIS IntKind.i64 (List.map (IV.int IntKind.i64) l) (Int.toNat (↑(ND.i x_1) : Int) * (1 : Nat)) fun (n9 : Int) =>
 i64b n9 ∧
 ∀ (w : Int),
 i64b w →
 ∃ (x : ND),
 some (TV.v (IV.vslice none (0 : Nat) (List.length l) (1 : Nat) (List.map (IV.int IntKind.i64) l))) =
 some (TV.v (IV.vslice none (0 : Nat) (List.length l) (1 : Nat) (List.map (IV.int IntKind.i64) l))) ∧
 some (TV.v (IV.bool b)) = some (TV.v (IV.bool b)) ∧
 some (TV.v (IV.int IntKind.i64 (↑(ND.i x_1) : Int))) = some (TV.v (IV.int IntKind.i64 (↑(ND.i x) : Int))) ∧
 some (TV.v (IV.vslice (ND.io x_1) (ND.e x_1) (List.length (ND.x x_1)) (3 : Nat) (List.flatMap cN (ND.x x_1)))) =
 some (TV.v (IV.vslice (ND.io x) (ND.e x) (List.length (ND.x x)) (3 : Nat) (List.flatMap cN (ND.x x)))) ∧
 some (TV.v (IV.ptr (ND.rd x_1) (0 : Nat))) = some (TV.v (IV.ptr (ND.rd x) (0 : Nat))) ∧
 some (TV.l (8 : Nat) (0 : Nat)) = some (TV.l (8 : Nat) (0 : Nat)) ∧
 some [IV.int IntKind.i64 (1 : Int), IV.int IntKind.i64 w, IV.nilslice] = some [IV.int IntKind.i64 (ND.op x), IV.int IntKind.i64 (ND.im x), IV.nilslice] ∧
 ND.g x_1 = ND.g x ∧ ((ND.i x < (14 : Nat) ∧ ND.i x < List.length l) ∧ OR x ∧ OI (ND.op x) (ND.im x)) ∧ ((14 : Nat) - ND.i x) * (10 : Nat) ≤ M)))
 (∃ (x : ND),
 some (TV.v (IV.vslice none (0 : Nat) (List.length l) (1 : Nat) (List.map (IV.int IntKind.i64) l))) =
 some (TV.v (IV.vslice none (0 : Nat) (List.length l) (1 : Nat) (List.map (IV.int IntKind.i64) l))) ∧
 some (TV.v (IV.bool b)) = some (TV.v (IV.bool b)) ∧
 some (TV.v (IV.int IntKind.i64 (↑(ND.i x_1) : Int))) = some (TV.v (IV.int IntKind.i64 (↑(ND.i x) : Int))) ∧
 some (TV.v (IV.vslice (ND.io x_1) (ND.e x_1) (List.length (ND.x x_1)) (3 : Nat) (List.flatMap cN (ND.x x_1)))) =
 some (TV.v (IV.vslice (ND.io x) (ND.e x) (List.length (ND.x x)) (3 : Nat) (List.flatMap cN (ND.x x)))) ∧
 some (TV.v (IV.ptr (ND.rd x_1) (0 : Nat))) = some (TV.v (IV.ptr (ND.rd x) (0 : Nat))) ∧
 some (TV.l (8 : Nat) (0 : Nat)) = some (TV.l (8 : Nat) (0 : Nat)) ∧
 some [IV.int IntKind.i64 (ND.op x_1), IV.int IntKind.i64 (ND.im x_1), IV.nilslice] = some [IV.int IntKind.i64 (ND.op x), IV.int IntKind.i64 (ND.im x), IV.nilslice] ∧
 ND.g x_1 = ND.g x ∧ ((ND.i x < (14 : Nat) ∧ ND.i x < List.length l) ∧ OR x ∧ OI (ND.op x) (ND.im x)) ∧ ((14 : Nat) - ND.i x) * (10 : Nat) ≤ M)) ∧
 ∀ (x_2 : ND) (b_3 : FF),
 (ND.i x_2 < (14 : Nat) ∧ ND.i x_2 < List.length l) ∧ OR x_2 ∧ OI (ND.op x_2) (ND.im x_2) →
 ((14 : Nat) - ND.i x_2) * (10 : Nat) ≤ M →
 ∃ (M : Nat),
 (∃ (x : ND),
 some (TV.v (IV.vslice none (0 : Nat) (List.length l) (1 : Nat) (List.map (IV.int IntKind.i64) l))) =
 some (TV.v (IV.vslice none (0 : Nat) (List.length l) (1 : Nat) (List.map (IV.int IntKind.i64) l))) ∧
 some (TV.v (IV.bool b)) = some (TV.v (IV.bool b)) ∧
 some (TV.v (IV.int IntKind.i64 (↑(ND.i x_2) : Int))) = some (TV.v (IV.int IntKind.i64 (↑(ND.i x) : Int))) ∧
 some (TV.v (IV.vslice (ND.io x_2) (ND.e x_2) (List.length (ND.x x_2)) (3 : Nat) (List.flatMap cN (ND.x x_2)))) =
 some (TV.v (IV.vslice (ND.io x) (ND.e x) (List.length (ND.x x)) (3 : Nat) (List.flatMap cN (ND.x x)))) ∧
 some (TV.v (IV.ptr (ND.rd x_2) (0 : Nat))) = some (TV.v (IV.ptr (ND.rd x) (0 : Nat))) ∧
 some (TV.l (8 : Nat) (0 : Nat)) = some (TV.l (8 : Nat) (0 : Nat)) ∧
 some (TV.v (IV.int IntKind.i64 (ar (ND.op x_2)))) = some (TV.v (IV.int IntKind.i64 (ar (ND.op x)))) ∧
 some (TV.v (IV.int IntKind.i64 (0 : Int))) = some (TV.v (IV.int IntKind.i64 (↑(List.length (ND.ks x)) : Int))) ∧
 some [IV.int IntKind.i64 (ND.op x_2), IV.int IntKind.i64 (ND.im x_2), IV.nilslice] = some [IV.int IntKind.i64 (ND.op x), IV.int IntKind.i64 (ND.im x), ND.kv x] ∧
 ND.g x_2 = ND.g x ∧
 ((ND.i x < (14 : Nat) ∧ ND.i x < List.length l) ∧ OR x ∧ OI (ND.op x) (ND.im x) ∧ KV x) ∧
 ((14 : Nat) - ND.i x) * (10 : Nat) + ((3 : Nat) - List.length (ND.ks x)) ≤ M) ∧
 ∀ (x_3 : ND) (b_4 : FF),
 (ND.i x_3 < (14 : Nat) ∧ ND.i x_3 < List.length l) ∧ OR x_3 ∧ OI (ND.op x_3) (ND.im x_3) ∧ KV x_3 →
 ((14 : Nat) - ND.i x_3) * (10 : Nat) + ((3 : Nat) - List.length (ND.ks x_3)) ≤ M →
 brS (decide ((↑(List.length (ND.ks x_3)) : Int) < ar (ND.op x_3)))
 (RD (ND.g x_3) (ND.rd x_3) ∧
 ∀ (n : Int) (h2 : Heap),
 i64b n →
 RD h2 (ND.rd x_3) →
 HF (ND.rd x_3) (ND.g x_3) h2 →
 ∃ (l_1 : List Nd),
 (List.length (ND.x x_3) = List.length l_1 ∧ List.flatMap cN (ND.x x_3) = List.flatMap cN l_1) ∧
 ((∀ (x : Nd), x ∈ l_1 → List.length (Nd.ks x) ≤ (1000000 : Nat) ∧ Nd.op x ≠ (25 : Int) ∧ Nd.op x ≠ (30 : Int) ∧ Nd.op x ≠ (31 : Int)) ∧
 List.length l_1 ≤ (1000000 : Nat) ∧ osort (ND.op x_3) (↑(List.length (ND.ks x_3)) : Int) ∈ sortsA l_1) ∧
 ∀ (q : Int),
 (0 : Int) ≤ q ∧ q < (↑(List.length l_1) : Int) ∧ List.getD (sortsA l_1) (Int.toNat q) (0 : Int) = osort (ND.op x_3) (↑(List.length (ND.ks x_3)) : Int) →
 appGS h2 (1 : Nat) (8 : Nat) x_3.8 (1 : Nat) [IV.int IntKind.i64 q] fun (i10 e11 l12 : Nat) (c13 : List IV) (g14 : Heap) =>
 ∃ (x : ND),
 some (TV.v (IV.vslice none (0 : Nat) (List.length l) (1 : Nat) (List.map (IV.int IntKind.i64) l))) =
 some (TV.v (IV.vslice none (0 : Nat) (List.length l) (1 : Nat) (List.map (IV.int IntKind.i64) l))) ∧
 some (TV.v (IV.bool b)) = some (TV.v (IV.bool b)) ∧
 some (TV.v (IV.int IntKind.i64 (↑(ND.i x_3) : Int))) = some (TV.v (IV.int IntKind.i64 (↑(ND.i x) : Int))) ∧
 some (TV.v (IV.vslice (ND.io x_3) (ND.e x_3) (List.length (ND.x x_3)) (3 : Nat) (List.flatMap cN (ND.x x_3)))) =
 some (TV.v (IV.vslice (ND.io x) (ND.e x) (List.length (ND.x x)) (3 : Nat) (List.flatMap cN (ND.x x)))) ∧
 some (TV.v (IV.ptr (ND.rd x_3) (0 : Nat))) = some (TV.v (IV.ptr (ND.rd x) (0 : Nat))) ∧
 some (TV.l (8 : Nat) (0 : Nat)) = some (TV.l (8 : Nat) (0 : Nat)) ∧
 some (TV.v (IV.int IntKind.i64 (ar (ND.op x_3)))) = some (TV.v (IV.int IntKind.i64 (ar (ND.op x)))) ∧
 some (TV.v (IV.int IntKind.i64 (IntKind.wrap IntKind.i64 ((↑(List.length (ND.ks x_3)) : Int) + (1 : Int))))) =
 some (TV.v (IV.int IntKind.i64 (↑(List.length (ND.ks x)) : Int))) ∧
 some [IV.int IntKind.i64 (ND.op x_3), IV.int IntKind.i64 (ND.im x_3), IV.vslice (some i10) e11 l12 (1 : Nat) c13] =
 some [IV.int IntKind.i64 (ND.op x), IV.int IntKind.i64 (ND.im x), ND.kv x] ∧
 g14 = ND.g x ∧
 ((ND.i x < (14 : Nat) ∧ ND.i x < List.length l) ∧ OR x ∧ OI (ND.op x) (ND.im x) ∧ KV x) ∧
 ((14 : Nat) - ND.i x) * (10 : Nat) + ((3 : Nat) - List.length (ND.ks x)) <
 ((14 : Nat) - ND.i x_3) * (10 : Nat) + ((3 : Nat) - List.length (ND.ks x_3)))
 (∃ (M : Nat),
 brS (ND.op x_3 == (27 : Int))
 (needS (decide ((0 : Int) ≤ (↑(ND.i x_3) : Int)) && decide ((↑(ND.i x_3) : Int) < (↑(List.length l) : Int)))
 (ldIS IntKind.i64 (List.map (IV.int IntKind.i64) l) (Int.toNat (↑(ND.i x_3) : Int) * (1 : Nat)) fun (n15 : Int) =>
 ((0 : Int) < (2 : Int) ∧ (2 : Int) < (4611686018427387904 : Int)) ∧
 ∃ (x : ND),
 some (TV.v (IV.vslice none (0 : Nat) (List.length l) (1 : Nat) (List.map (IV.int IntKind.i64) l))) =
 some (TV.v (IV.vslice none (0 : Nat) (List.length l) (1 : Nat) (List.map (IV.int IntKind.i64) l))) ∧
 some (TV.v (IV.bool b)) = some (TV.v (IV.bool b)) ∧
 some (TV.v (IV.int IntKind.i64 (↑(ND.i x_3) : Int))) = some (TV.v (IV.int IntKind.i64 (↑(ND.i x) : Int))) ∧
 some (TV.v (IV.vslice (ND.io x_3) (ND.e x_3) (List.length (ND.x x_3)) (3 : Nat) (List.flatMap cN (ND.x x_3)))) =
 some (TV.v (IV.vslice (ND.io x) (ND.e x) (List.length (ND.x x)) (3 : Nat) (List.flatMap cN (ND.x x)))) ∧
 some (TV.l (8 : Nat) (0 : Nat)) = some (TV.l (8 : Nat) (0 : Nat)) ∧
 some
 [IV.int IntKind.i64 (ND.op x_3),
 IV.int IntKind.i64 (IntKind.wrap IntKind.i64 ((1 : Int) + IntKind.wrap IntKind.i64 (Int.tdiv n15 (5 : Int)) % (2 : Int))), ND.kv x_3] =
 some [IV.int IntKind.i64 (ND.op x), IV.int IntKind.i64 (ND.im x), ND.kv x] ∧
 ND.g x_3 = ND.g x ∧
 ((ND.i x < (14 : Nat) ∧ ND.i x < List.length l) ∧
 OV x ∧
 KV x ∧
 OI (ND.op x) (0 : Int) ∧
 (↑(List.length (ND.ks x)) : Int) = ar (ND.op x) ∧
 (ND.op x ≠ (27 : Int) ∧ i64b (ND.im x) ∧ (ND.op x = (1 : Int) ∨ ND.im x = (0 : Int)) ∨
 ND.op x = (27 : Int) ∧ (1 : Int) ≤ ND.im x ∧ ND.im x ≤ (2 : Int))) ∧
 ((14 : Nat) - ND.i x) * (10 : Nat) ≤ M))
 (∃ (x : ND),
 some (TV.v (IV.vslice none (0 : Nat) (List.length l) (1 : Nat) (List.map (IV.int IntKind.i64) l))) =
 some (TV.v (IV.vslice none (0 : Nat) (List.length l) (1 : Nat) (List.map (IV.int IntKind.i64) l))) ∧
 some (TV.v (IV.bool b)) = some (TV.v (IV.bool b)) ∧
 some (TV.v (IV.int IntKind.i64 (↑(ND.i x_3) : Int))) = some (TV.v (IV.int IntKind.i64 (↑(ND.i x) : Int))) ∧
 some (TV.v (IV.vslice (ND.io x_3) (ND.e x_3) (List.length (ND.x x_3)) (3 : Nat) (List.flatMap cN (ND.x x_3)))) =
 some (TV.v (IV.vslice (ND.io x) (ND.e x) (List.length (ND.x x)) (3 : Nat) (List.flatMap cN (ND.x x)))) ∧
 some (TV.l (8 : Nat) (0 : Nat)) = some (TV.l (8 : Nat) (0 : Nat)) ∧
 some [IV.int IntKind.i64 (ND.op x_3), IV.int IntKind.i64 (ND.im x_3), ND.kv x_3] = some [IV.int IntKind.i64 (ND.op x), IV.int IntKind.i64 (ND.im x), ND.kv x] ∧
 ND.g x_3 = ND.g x ∧
 ((ND.i x < (14 : Nat) ∧ ND.i x < List.length l) ∧
 OV x ∧
 KV x ∧
 OI (ND.op x) (0 : Int) ∧
 (↑(List.length (ND.ks x)) : Int) = ar (ND.op x) ∧
 (ND.op x ≠ (27 : Int) ∧ i64b (ND.im x) ∧ (ND.op x = (1 : Int) ∨ ND.im x = (0 : Int)) ∨
 ND.op x = (27 : Int) ∧ (1 : Int) ≤ ND.im x ∧ ND.im x ≤ (2 : Int))) ∧
 ((14 : Nat) - ND.i x) * (10 : Nat) ≤ M) ∧
 ∀ (x_4 : ND) (b_5 : FF),
 (ND.i x_4 < (14 : Nat) ∧ ND.i x_4 < List.length l) ∧
 OV x_4 ∧
 KV x_4 ∧
 OI (ND.op x_4) (0 : Int) ∧
 (↑(List.length (ND.ks x_4)) : Int) = ar (ND.op x_4) ∧
 (ND.op x_4 ≠ (27 : Int) ∧ i64b (ND.im x_4) ∧ (ND.op x_4 = (1 : Int) ∨ ND.im x_4 = (0 : Int)) ∨
 ND.op x_4 = (27 : Int) ∧ (1 : Int) ≤ ND.im x_4 ∧ ND.im x_4 ≤ (2 : Int)) →
 ((14 : Nat) - ND.i x_4) * (10 : Nat) ≤ M →
 ∃ (M : Nat),
 brS (ND.op x_4 == (23 : Int))
 (needS (decide ((0 : Int) ≤ (↑(ND.i x_4) : Int)) && decide ((↑(ND.i x_4) : Int) < (↑(List.length l) : Int)))
 (ldIS IntKind.i64 (List.map (IV.int IntKind.i64) l) (Int.toNat (↑(ND.i x_4) : Int) * (1 : Nat)) fun (n16 : Int) =>
 ((0 : Int) < (2 : Int) ∧ (2 : Int) < (4611686018427387904 : Int)) ∧
 ((∃ (x : ND),
 some (TV.v (IV.vslice none (0 : Nat) (List.length l) (1 : Nat) (List.map (IV.int IntKind.i64) l))) =
 some (TV.v (IV.vslice none (0 : Nat) (List.length l) (1 : Nat) (List.map (IV.int IntKind.i64) l))) ∧
 some (TV.v (IV.bool b)) = some (TV.v (IV.bool b)) ∧
 some (TV.v (IV.int IntKind.i64 (↑(ND.i x_4) : Int))) = some (TV.v (IV.int IntKind.i64 (↑(ND.i x) : Int))) ∧
 some (TV.v (IV.vslice (ND.io x_4) (ND.e x_4) (List.length (ND.x x_4)) (3 : Nat) (List.flatMap cN (ND.x x_4)))) =
 some (TV.v (IV.vslice (ND.io x) (ND.e x) (List.length (ND.x x)) (3 : Nat) (List.flatMap cN (ND.x x)))) ∧
 some (TV.l (8 : Nat) (0 : Nat)) = some (TV.l (8 : Nat) (0 : Nat)) ∧
 some [IV.int IntKind.i64 (ND.op x_4), IV.int IntKind.i64 (IntKind.wrap IntKind.i64 (Int.tdiv n16 (5 : Int)) % (2 : Int)), ND.kv x_4] =
 some [IV.int IntKind.i64 (ND.op x), IV.int IntKind.i64 (ND.im x), IV.nilslice] ∧
 ND.g x_4 = ND.g x ∧
 ((ND.i x < (14 : Nat) ∧ ND.i x < List.length l) ∧ OV x ∧ FN (ND.x x) (ND.op x) (ND.im x) [] ∧ ND.ks x = []) ∧
 ((14 : Nat) - ND.i x) * (10 : Nat) ≤ M) ∨
 ∃ (x : ND),
 some (TV.v (IV.vslice none (0 : Nat) (List.length l) (1 : Nat) (List.map (IV.int IntKind.i64) l))) =
 some (TV.v (IV.vslice none (0 : Nat) (List.length l) (1 : Nat) (List.map (IV.int IntKind.i64) l))) ∧
 some (TV.v (IV.bool b)) = some (TV.v (IV.bool b)) ∧
 some (TV.v (IV.int IntKind.i64 (↑(ND.i x_4) : Int))) = some (TV.v (IV.int IntKind.i64 (↑(ND.i x) : Int))) ∧
 some (TV.v (IV.vslice (ND.io x_4) (ND.e x_4) (List.length (ND.x x_4)) (3 : Nat) (List.flatMap cN (ND.x x_4)))) =
 some (TV.v (IV.vslice (ND.io x) (ND.e x) (List.length (ND.x x)) (3 : Nat) (List.flatMap cN (ND.x x)))) ∧
 some (TV.l (8 : Nat) (0 : Nat)) = some (TV.l (8 : Nat) (0 : Nat)) ∧
 some [IV.int IntKind.i64 (ND.op x_4), IV.int IntKind.i64 (IntKind.wrap IntKind.i64 (Int.tdiv n16 (5 : Int)) % (2 : Int)), ND.kv x_4] =
 some
 [IV.int IntKind.i64 (ND.op x), IV.int IntKind.i64 (ND.im x),
 IV.vslice (some (ND.rd x)) (List.length (ND.ks x)) (List.length (ND.ks x)) (1 : Nat) (List.map (IV.int IntKind.i64) (ND.ks x))] ∧
 ND.g x_4 = ND.g x ∧
 ((ND.i x < (14 : Nat) ∧ ND.i x < List.length l) ∧ OV x ∧ FN (ND.x x) (ND.op x) (ND.im x) (ND.ks x)) ∧
 ((14 : Nat) - ND.i x) * (10 : Nat) ≤ M)))
 (brS (ND.op x_4 == (28 : Int))
 (needS (decide ((0 : Int) ≤ (↑(ND.i x_4) : Int)) && decide ((↑(ND.i x_4) : Int) < (↑(List.length l) : Int)))
 (ldIS IntKind.i64 (List.map (IV.int IntKind.i64) l) (Int.toNat (↑(ND.i x_4) : Int) * (1 : Nat)) fun (n17 : Int) =>
 ((0 : Int) < (2 : Int) ∧ (2 : Int) < (4611686018427387904 : Int)) ∧
 ((∃ (x : ND),
 some (TV.v (IV.vslice none (0 : Nat) (List.length l) (1 : Nat) (List.map (IV.int IntKind.i64) l))) =
 some (TV.v (IV.vslice none (0 : Nat) (List.length l) (1 : Nat) (List.map (IV.int IntKind.i64) l))) ∧
 some (TV.v (IV.bool b)) = some (TV.v (IV.bool b)) ∧
 some (TV.v (IV.int IntKind.i64 (↑(ND.i x_4) : Int))) = some (TV.v (IV.int IntKind.i64 (↑(ND.i x) : Int))) ∧
 some (TV.v (IV.vslice (ND.io x_4) (ND.e x_4) (List.length (ND.x x_4)) (3 : Nat) (List.flatMap cN (ND.x x_4)))) =
 some (TV.v (IV.vslice (ND.io x) (ND.e x) (List.length (ND.x x)) (3 : Nat) (List.flatMap cN (ND.x x)))) ∧
 some (TV.l (8 : Nat) (0 : Nat)) = some (TV.l (8 : Nat) (0 : Nat)) ∧
 some [IV.int IntKind.i64 (ND.op x_4), IV.int IntKind.i64 (IntKind.wrap IntKind.i64 (Int.tdiv n17 (5 : Int)) % (2 : Int)), ND.kv x_4] =
 some [IV.int IntKind.i64 (ND.op x), IV.int IntKind.i64 (ND.im x), IV.nilslice] ∧
 ND.g x_4 = ND.g x ∧
 ((ND.i x < (14 : Nat) ∧ ND.i x < List.length l) ∧ OV x ∧ FN (ND.x x) (ND.op x) (ND.im x) [] ∧ ND.ks x = []) ∧
 ((14 : Nat) - ND.i x) * (10 : Nat) ≤ M) ∨
 ∃ (x : ND),
 some (TV.v (IV.vslice none (0 : Nat) (List.length l) (1 : Nat) (List.map (IV.int IntKind.i64) l))) =
 some (TV.v (IV.vslice none (0 : Nat) (List.length l) (1 : Nat) (List.map (IV.int IntKind.i64) l))) ∧
 some (TV.v (IV.bool b)) = some (TV.v (IV.bool b)) ∧
 some (TV.v (IV.int IntKind.i64 (↑(ND.i x_4) : Int))) = some (TV.v (IV.int IntKind.i64 (↑(ND.i x) : Int))) ∧
 some (TV.v (IV.vslice (ND.io x_4) (ND.e x_4) (List.length (ND.x x_4)) (3 : Nat) (List.flatMap cN (ND.x x_4)))) =
 some (TV.v (IV.vslice (ND.io x) (ND.e x) (List.length (ND.x x)) (3 : Nat) (List.flatMap cN (ND.x x)))) ∧
 some (TV.l (8 : Nat) (0 : Nat)) = some (TV.l (8 : Nat) (0 : Nat)) ∧
 some [IV.int IntKind.i64 (ND.op x_4), IV.int IntKind.i64 (IntKind.wrap IntKind.i64 (Int.tdiv n17 (5 : Int)) % (2 : Int)), ND.kv x_4] =
 some
 [IV.int IntKind.i64 (ND.op x), IV.int IntKind.i64 (ND.im x),
 IV.vslice (some (ND.rd x)) (List.length (ND.ks x)) (List.length (ND.ks x)) (1 : Nat) (List.map (IV.int IntKind.i64) (ND.ks x))] ∧
 ND.g x_4 = ND.g x ∧
 ((ND.i x < (14 : Nat) ∧ ND.i x < List.length l) ∧ OV x ∧ FN (ND.x x) (ND.op x) (ND.im x) (ND.ks x)) ∧
 ((14 : Nat) - ND.i x) * (10 : Nat) ≤ M)))
 ((∃ (x : ND),
 some (TV.v (IV.vslice none (0 : Nat) (List.length l) (1 : Nat) (List.map (IV.int IntKind.i64) l))) =
 some (TV.v (IV.vslice none (0 : Nat) (List.length l) (1 : Nat) (List.map (IV.int IntKind.i64) l))) ∧
 some (TV.v (IV.bool b)) = some (TV.v (IV.bool b)) ∧
 some (TV.v (IV.int IntKind.i64 (↑(ND.i x_4) : Int))) = some (TV.v (IV.int IntKind.i64 (↑(ND.i x) : Int))) ∧
 some (TV.v (IV.vslice (ND.io x_4) (ND.e x_4) (List.length (ND.x x_4)) (3 : Nat) (List.flatMap cN (ND.x x_4)))) =
 some (TV.v (IV.vslice (ND.io x) (ND.e x) (List.length (ND.x x)) (3 : Nat) (List.flatMap cN (ND.x x)))) ∧
 some (TV.l (8 : Nat) (0 : Nat)) = some (TV.l (8 : Nat) (0 : Nat)) ∧
 some [IV.int IntKind.i64 (ND.op x_4), IV.int IntKind.i64 (ND.im x_4), ND.kv x_4] =
 some [IV.int IntKind.i64 (ND.op x), IV.int IntKind.i64 (ND.im x), IV.nilslice] ∧
 ND.g x_4 = ND.g x ∧
 ((ND.i x < (14 : Nat) ∧ ND.i x < List.length l) ∧ OV x ∧ FN (ND.x x) (ND.op x) (ND.im x) [] ∧ ND.ks x = []) ∧
 ((14 : Nat) - ND.i x) * (10 : Nat) ≤ M) ∨
 ∃ (x : ND),
 some (TV.v (IV.vslice none (0 : Nat) (List.length l) (1 : Nat) (List.map (IV.int IntKind.i64) l))) =
 some (TV.v (IV.vslice none (0 : Nat) (List.length l) (1 : Nat) (List.map (IV.int IntKind.i64) l))) ∧
 some (TV.v (IV.bool b)) = some (TV.v (IV.bool b)) ∧
 some (TV.v (IV.int IntKind.i64 (↑(ND.i x_4) : Int))) = some (TV.v (IV.int IntKind.i64 (↑(ND.i x) : Int))) ∧
 some (TV.v (IV.vslice (ND.io x_4) (ND.e x_4) (List.length (ND.x x_4)) (3 : Nat) (List.flatMap cN (ND.x x_4)))) =
 some (TV.v (IV.vslice (ND.io x) (ND.e x) (List.length (ND.x x)) (3 : Nat) (List.flatMap cN (ND.x x)))) ∧
 some (TV.l (8 : Nat) (0 : Nat)) = some (TV.l (8 : Nat) (0 : Nat)) ∧
 some [IV.int IntKind.i64 (ND.op x_4), IV.int IntKind.i64 (ND.im x_4), ND.kv x_4] =
 some
 [IV.int IntKind.i64 (ND.op x), IV.int IntKind.i64 (ND.im x),
 IV.vslice (some (ND.rd x)) (List.length (ND.ks x)) (List.length (ND.ks x)) (1 : Nat) (List.map (IV.int IntKind.i64) (ND.ks x))] ∧
 ND.g x_4 = ND.g x ∧
 ((ND.i x < (14 : Nat) ∧ ND.i x < List.length l) ∧ OV x ∧ FN (ND.x x) (ND.op x) (ND.im x) (ND.ks x)) ∧
 ((14 : Nat) - ND.i x) * (10 : Nat) ≤ M)) ∧
 (∀ (x_5 : ND) (b_6 : FF),
 (ND.i x_5 < (14 : Nat) ∧ ND.i x_5 < List.length l) ∧ OV x_5 ∧ FN (ND.x x_5) (ND.op x_5) (ND.im x_5) [] ∧ ND.ks x_5 = [] →
 ((14 : Nat) - ND.i x_5) * (10 : Nat) ≤ M →
 ∃ (l_1 : List Nd),
 ∃ (ks : List Int),
 (List.length (ND.x x_5) = List.length l_1 ∧ List.flatMap cN (ND.x x_5) = List.flatMap cN l_1) ∧
 ((0 : Nat) = List.length ks ∧ [] = List.map (IV.int IntKind.i64) ks) ∧
 (List.length l_1 ≤ (1000000 : Nat) ∧ ∀ (x : Nd), x ∈ l_1 → List.length (Nd.ks x) ≤ (1000000 : Nat)) ∧
 ∀ (b_7 : Bool),
 brS (!b_7)
 (appGS (ND.g x_5) (3 : Nat) (40 : Nat) (IV.vslice (ND.io x_5) (ND.e x_5) (List.length (ND.x x_5)) (3 : Nat) (List.flatMap cN (ND.x x_5)))
 (1 : Nat) [IV.int IntKind.i64 (ND.op x_5), IV.int IntKind.i64 (ND.im x_5), IV.vslice none (0 : Nat) (0 : Nat) (1 : Nat) []]
 fun (i18 e19 l20 : Nat) (c21 : List IV) (g22 : Heap) =>
 ∃ (x_6 : ND),
 some (TV.v (IV.vslice none (0 : Nat) (List.length l) (1 : Nat) (List.map (IV.int IntKind.i64) l))) =
 some (TV.v (IV.vslice none (0 : Nat) (List.length l) (1 : Nat) (List.map (IV.int IntKind.i64) l))) ∧
 some (TV.v (IV.bool b)) = some (TV.v (IV.bool b)) ∧
 some (TV.v (IV.int IntKind.i64 (IntKind.wrap IntKind.i64 ((↑(ND.i x_5) : Int) + (1 : Int))))) =
 some (TV.v (IV.int IntKind.i64 (↑(ND.i x_6) : Int))) ∧
 some (TV.v (IV.vslice (some i18) e19 l20 (3 : Nat) c21)) =
 some (TV.v (IV.vslice (ND.io x_6) (ND.e x_6) (List.length (ND.x x_6)) (3 : Nat) (List.flatMap cN (ND.x x_6)))) ∧
 g22 = ND.g x_6 ∧ (ND.i x_6 ≤ (14 : Nat) ∧ OV x_6) ∧ ((14 : Nat) - ND.i x_6) * (10 : Nat) < ((14 : Nat) - ND.i x) * (10 : Nat))
 (∃ (x_6 : ND),
 some (TV.v (IV.vslice none (0 : Nat) (List.length l) (1 : Nat) (List.map (IV.int IntKind.i64) l))) =
 some (TV.v (IV.vslice none (0 : Nat) (List.length l) (1 : Nat) (List.map (IV.int IntKind.i64) l))) ∧
 some (TV.v (IV.bool b)) = some (TV.v (IV.bool b)) ∧
 some (TV.v (IV.int IntKind.i64 (IntKind.wrap IntKind.i64 ((↑(ND.i x_5) : Int) + (1 : Int))))) =
 some (TV.v (IV.int IntKind.i64 (↑(ND.i x_6) : Int))) ∧
 some (TV.v (IV.vslice (ND.io x_5) (ND.e x_5) (List.length (ND.x x_5)) (3 : Nat) (List.flatMap cN (ND.x x_5)))) =
 some (TV.v (IV.vslice (ND.io x_6) (ND.e x_6) (List.length (ND.x x_6)) (3 : Nat) (List.flatMap cN (ND.x x_6)))) ∧
 ND.g x_5 = ND.g x_6 ∧
 (ND.i x_6 ≤ (14 : Nat) ∧ OV x_6) ∧ ((14 : Nat) - ND.i x_6) * (10 : Nat) < ((14 : Nat) - ND.i x) * (10 : Nat))) ∧
 ∀ (x_5 : ND) (b_6 : FF),
 (ND.i x_5 < (14 : Nat) ∧ ND.i x_5 < List.length l) ∧ OV x_5 ∧ FN (ND.x x_5) (ND.op x_5) (ND.im x_5) (ND.ks x_5) →
 ((14 : Nat) - ND.i x_5) * (10 : Nat) ≤ M →
 ∃ (l_1 : List Nd),
 ∃ (ks : List Int),
 (List.length (ND.x x_5) = List.length l_1 ∧ List.flatMap cN (ND.x x_5) = List.flatMap cN l_1) ∧
 (List.length (ND.ks x_5) = List.length ks ∧ List.map (IV.int IntKind.i64) (ND.ks x_5) = List.map (IV.int IntKind.i64) ks) ∧
 (List.length l_1 ≤ (1000000 : Nat) ∧ ∀ (x : Nd), x ∈ l_1 → List.length (Nd.ks x) ≤ (1000000 : Nat)) ∧
 ∀ (b_7 : Bool),
 brS (!b_7)
 (appGS (ND.g x_5) (3 : Nat) (40 : Nat) (IV.vslice (ND.io x_5) (ND.e x_5) (List.length (ND.x x_5)) (3 : Nat) (List.flatMap cN (ND.x x_5)))
 (1 : Nat)
 [IV.int IntKind.i64 (ND.op x_5), IV.int IntKind.i64 (ND.im x_5),
 IV.vslice none (0 : Nat) (List.length (ND.ks x_5)) (1 : Nat) (List.map (IV.int IntKind.i64) (ND.ks x_5))]
 fun (i23 e24 l25 : Nat) (c26 : List IV) (g27 : Heap) =>
 ∃ (x_6 : ND),
 some (TV.v (IV.vslice none (0 : Nat) (List.length l) (1 : Nat) (List.map (IV.int IntKind.i64) l))) =
 some (TV.v (IV.vslice none (0 : Nat) (List.length l) (1 : Nat) (List.map (IV.int IntKind.i64) l))) ∧
 some (TV.v (IV.bool b)) = some (TV.v (IV.bool b)) ∧
 some (TV.v (IV.int IntKind.i64 (IntKind.wrap IntKind.i64 ((↑(ND.i x_5) : Int) + (1 : Int))))) =
 some (TV.v (IV.int IntKind.i64 (↑(ND.i x_6) : Int))) ∧
 some (TV.v (IV.vslice (some i23) e24 l25 (3 : Nat) c26)) =
 some (TV.v (IV.vslice (ND.io x_6) (ND.e x_6) (List.length (ND.x x_6)) (3 : Nat) (List.flatMap cN (ND.x x_6)))) ∧
 g27 = ND.g x_6 ∧ (ND.i x_6 ≤ (14 : Nat) ∧ OV x_6) ∧ ((14 : Nat) - ND.i x_6) * (10 : Nat) < ((14 : Nat) - ND.i x) * (10 : Nat))
 (∃ (x_6 : ND),
 some (TV.v (IV.vslice none (0 : Nat) (List.length l) (1 : Nat) (List.map (IV.int IntKind.i64) l))) =
 some (TV.v (IV.vslice none (0 : Nat) (List.length l) (1 : Nat) (List.map (IV.int IntKind.i64) l))) ∧
 some (TV.v (IV.bool b)) = some (TV.v (IV.bool b)) ∧
 some (TV.v (IV.int IntKind.i64 (IntKind.wrap IntKind.i64 ((↑(ND.i x_5) : Int) + (1 : Int))))) =
 some (TV.v (IV.int IntKind.i64 (↑(ND.i x_6) : Int))) ∧
 some (TV.v (IV.vslice (ND.io x_5) (ND.e x_5) (List.length (ND.x x_5)) (3 : Nat) (List.flatMap cN (ND.x x_5)))) =
 some (TV.v (IV.vslice (ND.io x_6) (ND.e x_6) (List.length (ND.x x_6)) (3 : Nat) (List.flatMap cN (ND.x x_6)))) ∧
 ND.g x_5 = ND.g x_6 ∧
 (ND.i x_6 ≤ (14 : Nat) ∧ OV x_6) ∧ ((14 : Nat) - ND.i x_6) * (10 : Nat) < ((14 : Nat) - ND.i x) * (10 : Nat))))))))
 (needS (pureL [IV.vslice none (0 : Nat) (List.length (ND.x x)) (3 : Nat) (List.flatMap cN (ND.x x))]) (Q (IV.vslice none (0 : Nat) (List.length (ND.x x)) (3 : Nat) (List.flatMap cN (ND.x x))) h)))
 (needS (pureL [IV.vslice none (0 : Nat) (List.length (ND.x x)) (3 : Nat) (List.flatMap cN (ND.x x))]) (Q (IV.vslice none (0 : Nat) (List.length (ND.x x)) (3 : Nat) (List.flatMap cN (ND.x x))) h)))) := by kernel_rfl
set_option maxHeartbeats 4000000 in
theorem sNodes : ∀ xs h Q, kNodes xs h Q → CallW env 15 xs h Q := by
  intro xs h Q hk
  unfold kNodes at hk
  split at hk
  · rename_i e1 n1 c1 b
    obtain ⟨l, ⟨rfl, rfl⟩, hb, hk⟩ := hk
    refine dF_run (okCont) (vNodes l b e1 h Q) ?_
    have tn : ∀ x : Nat, (x : Int).toNat = x := Int.toNat_natCast
    obtain ⟨hlb, hll⟩ := hb
    have hL : ∀ {i : Nat} {K : Int → Prop}, i < l.length → (∀ n, i64b n → K n) → needS (decide ((0 : Int) ≤ (i : Int)) && decide ((i : Int) < (l.length : Int))) (ldIS .i64 (l.map (IV.int .i64)) ((i : Int).toNat * 1) K) :=
      fun h hk => needS_intro (by simp; omega) (ldI1 h (by rw [Nat.mul_one, tn]) (hk _ (hlb _ (List.getElem_mem h))))
    refine needS_intro (by simp only [pureL, pureB, pureL_ints, Bool.and_true]) ⟨⟨⟨0, init3, none, 1, 0, 0, [], .nilslice, 0, Heap.empty⟩, ?_⟩, ?_⟩
    · repeat (refine And.intro (by first | rfl | exact True.intro | (rw [IntWalk.i64_in _ (by omega)]; rfl)) ?_)
      exact ⟨⟨Nat.zero_le _, NW.init, .inl ⟨rfl, rfl⟩⟩, trivial⟩
    rintro x _ ⟨hi, hov⟩
    have fin : needS (pureL [.vslice none 0 x.x.length 3 (x.x.flatMap cN)]) (Q (.vslice none 0 x.x.length 3 (x.x.flatMap cN)) h) := needS_intro (by simp only [pureL, pureB, pureL_cN, Bool.and_true]) (hk _ (hov.1.mono hi))
    refine brS_intro (fun c => brS_intro (fun c2 => ?_) (fun _ => fin)) (fun _ => fin)
    rw [decide_eq_true_eq] at c c2
    have hr : x.i < 14 ∧ x.i < l.length := by omega
    refine hL hr.2 (fun n0 _ => hL hr.2 (fun n1 _ => hL hr.2 (fun n2 _ => hL hr.2 (fun n3 _ => ⟨by omega, (14 - x.i) * 10, ?_, ?_⟩))))
    · have w3 : IntKind.i64.wrap (4 + n3 % 19) = 4 + n3 % 19 := IntWalk.i64_in _ (by omega)
      rw [w3]
      have o3 : opOk (4 + n3 % 19) = true := by unfold opOk; rw [decide_eq_true_eq]; omega
      have oi : ∀ op, opOk op = true → OI op 0 := fun op h => ⟨h, by unfold i64b; omega, .inr rfl⟩
      refine brS_intro (fun _ => hL hr.2 (fun n4 _ => ⟨by omega, brS_intro (fun _ => hL hr.2 (fun n5 _ => ⟨by omega, needS_intro (by simp; omega) ?_⟩)) (fun _ => ?_)⟩)) (fun _ => ?_)
      · show ldIS .i64 (([23, 27, 28, 29, 24] : List Int).map (IV.int .i64)) _ _
        have hl : (IntKind.i64.wrap (n5.tdiv 9) % 5).toNat < ([23, 27, 28, 29, 24] : List Int).length := by simp; omega
        have ha : ∀ x ∈ ([23, 27, 28, 29, 24] : List Int), opOk x = true := by decide
        exact ldI1 hl (Nat.mul_one _) ⟨⟨x.i, x.x, x.io, x.e, _, 0, [], .nilslice, x.g.next, _⟩, rfl, rfl, rfl, rfl, rfl, rfl, rfl, rfl, ⟨hr, OR.mk1 hov _ _ _ _ _, oi _ (ha _ (List.getElem_mem hl))⟩, Nat.le_refl _⟩
      · exact ⟨⟨x.i, x.x, x.io, x.e, 4 + n3 % 19, 0, [], .nilslice, x.g.next, _⟩, rfl, rfl, rfl, rfl, rfl, rfl, rfl, rfl, ⟨hr, OR.mk1 hov _ _ _ _ _, oi _ o3⟩, Nat.le_refl _⟩
      · exact ⟨⟨x.i, x.x, x.io, x.e, 4 + n3 % 19, 0, [], .nilslice, x.g.next, _⟩, rfl, rfl, rfl, rfl, rfl, rfl, rfl, rfl, ⟨hr, OR.mk1 hov _ _ _ _ _, oi _ o3⟩, Nat.le_refl _⟩
    · rintro x1 _ ⟨hr1, hor, hoi⟩ hM1
      refine ⟨(14 - x1.i) * 10, hL hr1.2 (fun n7 _ => ⟨by omega, brS_intro (fun _ => hL hr1.2 (fun n8 _ => hL hr1.2 (fun n9 h9 => ⟨h9, fun w hw => ⟨⟨x1.i, x1.x, x1.io, x1.e, 1, w, [], .nilslice, x1.rd, x1.g⟩, ?_⟩⟩))) (fun _ => ⟨x1, ?_⟩)⟩), ?_⟩
      · repeat (refine And.intro (by first | rfl | exact True.intro | (rw [IntWalk.i64_in _ (by omega)]; rfl)) ?_)
        exact ⟨⟨hr1, hor, ⟨rfl, hw, .inl rfl⟩⟩, Nat.le_refl _⟩
      · repeat (refine And.intro (by first | rfl | exact True.intro | (rw [IntWalk.i64_in _ (by omega)]; rfl)) ?_)
        exact ⟨⟨hr1, hor, hoi⟩, Nat.le_refl _⟩
      rintro x2 _ ⟨hr2, hor2, hoi2⟩ hM2
      refine ⟨(14 - x2.i) * 10 + 3, ⟨⟨x2.i, x2.x, x2.io, x2.e, x2.op, x2.im, [], .nilslice, x2.rd, x2.g⟩, ?_⟩, ?_⟩
      · repeat (refine And.intro (by first | rfl | exact True.intro | (rw [IntWalk.i64_in _ (by omega)]; rfl)) ?_)
        exact ⟨⟨hr2, hor2, hoi2, KS.nil hoi2.1, .inl ⟨rfl, rfl⟩⟩, Nat.le_refl _⟩
      rintro x3 _ ⟨hr3, hor3, hoi3, hks, hkv⟩ hM3
      have hxl := hor3.1.1.1
      have ha3 := ar_3 x3.op
      have hkl := hks.1
      refine brS_intro (fun c3 => ?_) (fun c3 => ?_)
      · rw [decide_eq_true_eq] at c3
        refine ⟨hor3.2.1, fun n h2 hn hrd hf => ⟨x3.x, ⟨rfl, rfl⟩, ⟨hor3.1.1.sorts, by omega, hor3.1.1.has _ _⟩, fun q hq => ?_⟩⟩
        have hkv2 : (x3.kv = .nilslice ∧ x3.ks = []) ∨ ∃ id, x3.kv = .vslice (some id) x3.ks.length x3.ks.length 1 (x3.ks.map (IV.int .i64)) ∧ KH x3.ks id h2 := by
          rcases hkv with q | ⟨id, q1, q2, q3, _⟩
          · exact .inl q
          · exact .inr ⟨id, q1, q2.hf hf q3⟩
        refine app_kids hkv2 (by omega) (fun id h3 hkh hf3 hfr => ⟨⟨x3.i, x3.x, x3.io, x3.e, x3.op, x3.im, x3.ks ++ [q], .vslice (some id) (x3.ks ++ [q]).length (x3.ks ++ [q]).length 1 ((x3.ks ++ [q]).map (IV.int .i64)), x3.rd, h3⟩, ?_⟩)
        have hne : ∀ j, x3.io = some j → j ≠ id := fun j hj e => by
          subst e
          rcases hfr with q | q
          · rcases hor3.1.2 with q2 | ⟨id2, q2, _, q3⟩
            · rw [q2.1] at hj
              cases hj
            · rw [q2] at hj
              cases hj
              have := q3.2
              have := hf.1
              omega
          · rcases hkv with ⟨q2, _⟩ | ⟨id2, q2, _, _, q3⟩
            · rw [q2] at q
              cases q
            · rw [q2] at q
              cases q
              exact q3 _ hj rfl
        have hnr : id ≠ x3.rd := fun e => by
          subst e
          rcases hfr with q | q
          · have := hrd.1
            omega
          · rcases hkv with ⟨q2, _⟩ | ⟨id2, q2, _, q3, _⟩
            · rw [q2] at q
              cases q
            · rw [q2] at q
              cases q
              exact q3 rfl
        refine ⟨rfl, rfl, rfl, rfl, rfl, rfl, rfl, ?_⟩
        refine ⟨by rw [IntWalk.i64_in _ (by omega)]; simp, ?_⟩
        repeat (refine And.intro (by first | rfl | exact True.intro | (rw [IntWalk.i64_in _ (by omega)]; rfl)) ?_)
        refine ⟨⟨hr3, ⟨⟨hor3.1.1, ?_⟩, hrd.hf hf3 hnr.symm, hor3.2.2⟩, hoi3, hks.snoc c3 hq, .inr ⟨id, rfl, hkh, hnr, hne⟩⟩, by simp only [List.length_append, List.length_cons, List.length_nil]; omega⟩
        rcases hor3.1.2 with q2 | ⟨id2, q2, q4, q3⟩
        · exact .inl q2
        · exact .inr ⟨id2, q2, q4, (q3.hf hf (hor3.2.2 _ q2)).hf hf3 (hne _ q2)⟩
      · rw [decide_eq_false_iff_not] at c3
        have hka : (x3.ks.length : Int) = ar x3.op := by omega
        refine ⟨(14 - x3.i) * 10, brS_intro (fun c4 => hL hr3.2 (fun n15 _ => ⟨by omega, ⟨⟨x3.i, x3.x, x3.io, x3.e, x3.op, 1 + IntKind.i64.wrap (n15.tdiv 5) % 2, x3.ks, x3.kv, x3.rd, x3.g⟩, ?_⟩⟩)) (fun c4 => ⟨x3, ?_⟩), ?_⟩
        · have w4 : IntKind.i64.wrap (1 + IntKind.i64.wrap (n15.tdiv 5) % 2) = 1 + IntKind.i64.wrap (n15.tdiv 5) % 2 := IntWalk.i64_in _ (by omega)
          rw [w4]
          repeat (refine And.intro (by first | rfl | exact True.intro | (rw [IntWalk.i64_in _ (by omega)]; rfl)) ?_)
          refine ⟨⟨hr3, hor3.1, ⟨hks, hkv⟩, ⟨hoi3.1, by unfold i64b; omega, .inr rfl⟩, hka, .inr ⟨beq_iff_eq.1 c4, by dsimp only; omega, by dsimp only; omega⟩⟩, by dsimp only; omega⟩
        · repeat (refine And.intro (by first | rfl | exact True.intro | (rw [IntWalk.i64_in _ (by omega)]; rfl)) ?_)
          refine ⟨⟨hr3, hor3.1, ⟨hks, hkv⟩, ⟨hoi3.1, by unfold i64b; omega, .inr rfl⟩, hka, .inl ⟨by simpa using c4, hoi3.2.1, hoi3.2.2⟩⟩, by omega⟩
        rintro x4 _ ⟨hr4, hov4, ⟨hks4, hkv4⟩, hoi4, hka4, him4⟩ hM4
        have toB : ∀ im, FN x4.x x4.op im x4.ks → ((∃ y : ND, some (TV.v (.vslice none 0 l.length 1 (l.map (IV.int .i64)))) = some (TV.v (.vslice none 0 l.length 1 (l.map (IV.int .i64)))) ∧ some (TV.v (.bool b)) = some (TV.v (.bool b)) ∧ some (TV.v (.int .i64 (x4.i : Int))) = some (TV.v (.int .i64 (y.i : Int))) ∧
          some (TV.v (.vslice x4.io x4.e x4.x.length 3 (x4.x.flatMap cN))) = some (TV.v (.vslice y.io y.e y.x.length 3 (y.x.flatMap cN))) ∧ some (TV.l 8 0) = some (TV.l 8 0) ∧ some [.int .i64 x4.op, .int .i64 im, x4.kv] = some [.int .i64 y.op, .int .i64 y.im, IV.nilslice] ∧ x4.g = y.g ∧
          ((y.i < 14 ∧ y.i < l.length) ∧ OV y ∧ FN y.x y.op y.im [] ∧ y.ks = []) ∧ (14 - y.i) * 10 ≤ (14 - x4.i) * 10) ∨
         ∃ y : ND, some (TV.v (.vslice none 0 l.length 1 (l.map (IV.int .i64)))) = some (TV.v (.vslice none 0 l.length 1 (l.map (IV.int .i64)))) ∧ some (TV.v (.bool b)) = some (TV.v (.bool b)) ∧ some (TV.v (.int .i64 (x4.i : Int))) = some (TV.v (.int .i64 (y.i : Int))) ∧
          some (TV.v (.vslice x4.io x4.e x4.x.length 3 (x4.x.flatMap cN))) = some (TV.v (.vslice y.io y.e y.x.length 3 (y.x.flatMap cN))) ∧ some (TV.l 8 0) = some (TV.l 8 0) ∧ some [.int .i64 x4.op, .int .i64 im, x4.kv] = some [.int .i64 y.op, .int .i64 y.im, IV.vslice (some y.rd) y.ks.length y.ks.length 1 (y.ks.map (IV.int .i64))] ∧ x4.g = y.g ∧
          ((y.i < 14 ∧ y.i < l.length) ∧ OV y ∧ FN y.x y.op y.im y.ks) ∧ (14 - y.i) * 10 ≤ (14 - x4.i) * 10) := fun im hfn => by
          rcases hkv4 with ⟨q1, q2⟩ | ⟨id, q1, q2, q3, q4⟩
          · refine .inl ⟨⟨x4.i, x4.x, x4.io, x4.e, x4.op, im, [], .nilslice, x4.rd, x4.g⟩, ?_⟩
            rw [q1]
            repeat (refine And.intro (by first | rfl | exact True.intro | (rw [IntWalk.i64_in _ (by omega)]; rfl)) ?_)
            exact ⟨⟨hr4, hov4, by rw [q2] at hfn; exact hfn, rfl⟩, Nat.le_refl _⟩
          · refine .inr ⟨⟨x4.i, x4.x, x4.io, x4.e, x4.op, im, x4.ks, .nilslice, id, x4.g⟩, ?_⟩
            rw [q1]
            repeat (refine And.intro (by first | rfl | exact True.intro | (rw [IntWalk.i64_in _ (by omega)]; rfl)) ?_)
            exact ⟨⟨hr4, hov4, hfn⟩, Nat.le_refl _⟩
        refine ⟨(14 - x4.i) * 10, brS_intro (fun c5 => hL hr4.2 (fun n16 _ => ⟨by omega, toB _ ?_⟩)) (fun c5 => brS_intro (fun c6 => hL hr4.2 (fun n17 _ => ⟨by omega, toB _ ?_⟩)) (fun c6 => toB _ ?_)), ?_, ?_⟩
        · exact hoi4.fn hks4 hka4 (.inr (.inl ⟨.inl (beq_iff_eq.1 c5), by omega, by omega⟩))
        · exact hoi4.fn hks4 hka4 (.inr (.inl ⟨.inr (beq_iff_eq.1 c6), by omega, by omega⟩))
        · rw [beq_eq_false_iff_ne] at c5 c6
          rcases him4 with ⟨q1, q2, q3⟩ | ⟨q1, q2, q3⟩
          · have : OI x4.op x4.im := ⟨hoi4.1, q2, q3⟩
            exact this.fn hks4 hka4 (.inl ⟨c5, q1, c6, rfl⟩)
          · exact hoi4.fn hks4 hka4 (.inr (.inr ⟨q1, q2, q3⟩))
        · rintro x5 _ ⟨hr5, hov5, hfn5, hk5⟩ hM5
          have hx5 := hov5.1.1
          refine ⟨x5.x, ([] : List Int), ⟨rfl, rfl⟩, ⟨rfl, rfl⟩, ⟨by omega, fun n hn => (hov5.1.sorts n hn).1⟩, fun b7 => brS_intro (fun _ => app_out (n := ⟨x5.op, x5.im, ([] : List Int)⟩) hov5.2 (by omega) (fun id h3 hoh => ⟨⟨x5.i + 1, x5.x ++ [⟨x5.op, x5.im, ([] : List Int)⟩], some id, (x5.x ++ [(⟨x5.op, x5.im, ([] : List Int)⟩ : Nd)]).length * 3, 0, 0, [], .nilslice, 0, h3⟩, ?_⟩)) (fun _ => ⟨⟨x5.i + 1, x5.x, x5.io, x5.e, 0, 0, [], .nilslice, 0, x5.g⟩, ?_⟩)⟩
          · repeat (refine And.intro (by first | rfl | exact True.intro | (rw [IntWalk.i64_in _ (by omega)]; rfl)) ?_)
            exact ⟨⟨by dsimp only; omega, hov5.1.app (by omega) hfn5, .inr ⟨id, rfl, rfl, hoh⟩⟩, by dsimp only; omega⟩
          · repeat (refine And.intro (by first | rfl | exact True.intro | (rw [IntWalk.i64_in _ (by omega)]; rfl)) ?_)
            exact ⟨⟨by dsimp only; omega, hov5.1.mono (Nat.le_succ _), hov5.2⟩, by dsimp only; omega⟩
        · rintro x5 _ ⟨hr5, hov5, hfn5⟩ hM5
          have hx5 := hov5.1.1
          refine ⟨x5.x, x5.ks, ⟨rfl, rfl⟩, ⟨rfl, rfl⟩, ⟨by omega, fun n hn => (hov5.1.sorts n hn).1⟩, fun b7 => brS_intro (fun _ => app_out (n := ⟨x5.op, x5.im, x5.ks⟩) hov5.2 (by omega) (fun id h3 hoh => ⟨⟨x5.i + 1, x5.x ++ [⟨x5.op, x5.im, x5.ks⟩], some id, (x5.x ++ [(⟨x5.op, x5.im, x5.ks⟩ : Nd)]).length * 3, 0, 0, [], .nilslice, 0, h3⟩, ?_⟩)) (fun _ => ⟨⟨x5.i + 1, x5.x, x5.io, x5.e, 0, 0, [], .nilslice, 0, x5.g⟩, ?_⟩)⟩
          · repeat (refine And.intro (by first | rfl | exact True.intro | (rw [IntWalk.i64_in _ (by omega)]; rfl)) ?_)
            exact ⟨⟨by dsimp only; omega, hov5.1.app (by omega) hfn5, .inr ⟨id, rfl, rfl, hoh⟩⟩, by dsimp only; omega⟩
          · repeat (refine And.intro (by first | rfl | exact True.intro | (rw [IntWalk.i64_in _ (by omega)]; rfl)) ?_)
            exact ⟨⟨by dsimp only; omega, hov5.1.mono (Nat.le_succ _), hov5.2⟩, by dsimp only; omega⟩
  · exact hk.elim
def cNodes := addC 15 kNodes cCont
theorem okNodes : Sound env cNodes := sound_add sNodes (okCont)

end Go.Proofs.Ytmfnadojephcpaa
