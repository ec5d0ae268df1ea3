/-
  Machine words: Decode of the reference.
  Conditions: none.
-/
import Derived.Test.YtlenjfbmpekabaaDoorE30
import Derived.KernelRfl
set_option linter.unusedVariables false
set_option linter.unusedSimpArgs false
namespace Go.Proofs.YtlenjfbmpekabaaDoor
open Go.Pv Go.M29 Go.M30
def kRDecode (xs : List IV) (h : Heap) (K : IV → Heap → Prop) : Prop := match xs with
  | [.vslice none e1 n1 1 c1, .int .i64 k] => ∃ w : List Int, (n1 = w.length ∧ c1 = w.map (IV.int .u32)) ∧ ((∀ x ∈ w, u32b x) ∧ (w.length : Int) ≤ 4611686018427387904 ∧ -9223372036854775808 ≤ k) ∧ K (.tuple [.agg [.int .i64 (decR w k).1.op, .int .i64 (decR w k).1.a, .int .i64 (decR w k).1.b, .int .i64 (decR w k).1.c, .int .i64 (decR w k).1.n], .int .i64 (decR w k).2.1, .int .i64 (decR w k).2.2]) h
  | _ => False
set_option maxRecDepth 100000 in
theorem vRDecode (w : List Int) (e1 : Nat) (k : Int) (h : Heap) (Q : IV → Heap → Prop) : dF (stdS cDecode) env 35 noU noI (icS (icA 11 (atP (((0 ≤ k ∧ k < w.length) ∧ okI ((w.getD k.toNat 0) % 64) = true)) [(0, .v (.vslice none 0 (w).length 1 ((w).map (IV.int .u32)))), (1, .v (.int .i64 k)), (4, .l 4 0), (7, .v (.int .u32 (w.getD k.toNat 0))), (8, .l 8 0), (9, .v (.int .i64 (fmI ((w.getD k.toNat 0) % 64))))] [(4, [.int .i64 0, .int .i64 0, .int .i64 0, .int .i64 0, .int .i64 0]), (8, [.int .i64 ((w.getD k.toNat 0) % 64), .int .i64 (if fA (fmI ((w.getD k.toNat 0) % 64)) then (w.getD k.toNat 0) / 64 % 8 else 0), .int .i64 0, .int .i64 0, .int .i64 0])] Heap.empty) (icA 13 (atP (((0 ≤ k ∧ k < w.length) ∧ okI ((w.getD k.toNat 0) % 64) = true)) [(0, .v (.vslice none 0 (w).length 1 ((w).map (IV.int .u32)))), (1, .v (.int .i64 k)), (4, .l 4 0), (7, .v (.int .u32 (w.getD k.toNat 0))), (8, .l 8 0), (9, .v (.int .i64 (fmI ((w.getD k.toNat 0) % 64))))] [(4, [.int .i64 0, .int .i64 0, .int .i64 0, .int .i64 0, .int .i64 0]), (8, [.int .i64 ((w.getD k.toNat 0) % 64), .int .i64 (if fA (fmI ((w.getD k.toNat 0) % 64)) then (w.getD k.toNat 0) / 64 % 8 else 0), .int .i64 (if fB (fmI ((w.getD k.toNat 0) % 64)) then (w.getD k.toNat 0) / 512 % 8 else 0), .int .i64 0, .int .i64 0])] Heap.empty) (icA 15 (atP (((0 ≤ k ∧ k < w.length) ∧ okI ((w.getD k.toNat 0) % 64) = true)) [(0, .v (.vslice none 0 (w).length 1 ((w).map (IV.int .u32)))), (1, .v (.int .i64 k)), (4, .l 4 0), (7, .v (.int .u32 (w.getD k.toNat 0))), (8, .l 8 0), (9, .v (.int .i64 (fmI ((w.getD k.toNat 0) % 64))))] [(4, [.int .i64 0, .int .i64 0, .int .i64 0, .int .i64 0, .int .i64 0]), (8, [.int .i64 ((w.getD k.toNat 0) % 64), .int .i64 (if fA (fmI ((w.getD k.toNat 0) % 64)) then (w.getD k.toNat 0) / 64 % 8 else 0), .int .i64 (if fB (fmI ((w.getD k.toNat 0) % 64)) then (w.getD k.toNat 0) / 512 % 8 else 0), .int .i64 (if fmI ((w.getD k.toNat 0) % 64) = 4 then (w.getD k.toNat 0) / 4096 % 8 else 0), .int .i64 0])] Heap.empty) (icA 20 (atP (((0 ≤ k ∧ k < w.length) ∧ okI ((w.getD k.toNat 0) % 64) = true)) [(0, .v (.vslice none 0 (w).length 1 ((w).map (IV.int .u32)))), (1, .v (.int .i64 k)), (4, .l 4 0), (7, .v (.int .u32 (w.getD k.toNat 0))), (8, .l 8 0), (9, .v (.int .i64 (fmI ((w.getD k.toNat 0) % 64))))] [(4, [.int .i64 0, .int .i64 0, .int .i64 0, .int .i64 0, .int .i64 0]), (8, [.int .i64 ((w.getD k.toNat 0) % 64), .int .i64 (if fA (fmI ((w.getD k.toNat 0) % 64)) then (w.getD k.toNat 0) / 64 % 8 else 0), .int .i64 (if fB (fmI ((w.getD k.toNat 0) % 64)) then (w.getD k.toNat 0) / 512 % 8 else 0), .int .i64 (if fmI ((w.getD k.toNat 0) % 64) = 4 then (w.getD k.toNat 0) / 4096 % 8 else 0), .int .i64 (decN (w.getD k.toNat 0) (fmI ((w.getD k.toNat 0) % 64)))])] Heap.empty) (ic1 26 (atP ((((0 ≤ k ∧ k < w.length) ∧ okI ((w.getD k.toNat 0) % 64) = true) ∧ (fmI ((w.getD k.toNat 0) % 64) = 6 → k.toNat + 3 ≤ w.length))) [(0, .v (.vslice none 0 (w).length 1 ((w).map (IV.int .u32)))), (1, .v (.int .i64 k)), (4, .l 4 0), (7, .v (.int .u32 (w.getD k.toNat 0))), (8, .l 8 0), (12, .v (.int .i64 (if fmI ((w.getD k.toNat 0) % 64) = 6 then 3 else 1)))] [(4, [.int .i64 0, .int .i64 0, .int .i64 0, .int .i64 0, .int .i64 0]), (8, [.int .i64 ((w.getD k.toNat 0) % 64), .int .i64 (if fA (fmI ((w.getD k.toNat 0) % 64)) then (w.getD k.toNat 0) / 64 % 8 else 0), .int .i64 (if fB (fmI ((w.getD k.toNat 0) % 64)) then (w.getD k.toNat 0) / 512 % 8 else 0), .int .i64 (if fmI ((w.getD k.toNat 0) % 64) = 4 then (w.getD k.toNat 0) / 4096 % 8 else 0), .int .i64 (dI w k).n])] Heap.empty))))))) [.vslice none e1 (w).length 1 ((w).map (IV.int .u32)), .int .i64 k] h Q = (
  needS (pureL [IV.vslice none (0 : Nat) (List.length w) (1 : Nat) (List.map (IV.int IntKind.u32) w), IV.int IntKind.i64 k])
 (brS (decide (k < (0 : Int)))
 (Q
 (IV.tuple [IV.agg [IV.int IntKind.i64 (0 : Int), IV.int IntKind.i64 (0 : Int), IV.int IntKind.i64 (0 : Int), IV.int IntKind.i64 (0 : Int), IV.int IntKind.i64 (0 : Int)], IV.int IntKind.i64 (0 : Int), IV.int IntKind.i64 (204 : Int)])
 h)
 (brS (decide (k ≥ (↑(List.length w) : Int)))
 (Q
 (IV.tuple
 [IV.agg [IV.int IntKind.i64 (0 : Int), IV.int IntKind.i64 (0 : Int), IV.int IntKind.i64 (0 : Int), IV.int IntKind.i64 (0 : Int), IV.int IntKind.i64 (0 : Int)], IV.int IntKind.i64 (0 : Int), IV.int IntKind.i64 (204 : Int)])
 h)
 (needS (decide ((0 : Int) ≤ k) && decide (k < (↑(List.length w) : Int)))
 (ldIS IntKind.u32 (List.map (IV.int IntKind.u32) w) (Int.toNat k * (1 : Nat)) fun (n0 : Int) =>
 brS (fmI (IntKind.wrap IntKind.i64 (bvAnd IntKind.u32 n0 (63 : Int))) == (0 : Int))
 (Q
 (IV.tuple
 [IV.agg [IV.int IntKind.i64 (0 : Int), IV.int IntKind.i64 (0 : Int), IV.int IntKind.i64 (0 : Int), IV.int IntKind.i64 (0 : Int), IV.int IntKind.i64 (0 : Int)], IV.int IntKind.i64 (0 : Int), IV.int IntKind.i64 (204 : Int)])
 h)
 (brS (fmI (IntKind.wrap IntKind.i64 (bvAnd IntKind.u32 n0 (63 : Int))) != (1 : Int))
 (brS (fmI (IntKind.wrap IntKind.i64 (bvAnd IntKind.u32 n0 (63 : Int))) != (8 : Int))
 (some (TV.v (IV.vslice none (0 : Nat) (List.length w) (1 : Nat) (List.map (IV.int IntKind.u32) w))) = some (TV.v (IV.vslice none (0 : Nat) (List.length w) (1 : Nat) (List.map (IV.int IntKind.u32) w))) ∧
 some (TV.v (IV.int IntKind.i64 k)) = some (TV.v (IV.int IntKind.i64 k)) ∧
 some (TV.l (4 : Nat) (0 : Nat)) = some (TV.l (4 : Nat) (0 : Nat)) ∧
 some (TV.v (IV.int IntKind.u32 n0)) = some (TV.v (IV.int IntKind.u32 (List.getD w (Int.toNat k) (0 : Int)))) ∧
 some (TV.l (8 : Nat) (0 : Nat)) = some (TV.l (8 : Nat) (0 : Nat)) ∧
 some (TV.v (IV.int IntKind.i64 (fmI (IntKind.wrap IntKind.i64 (bvAnd IntKind.u32 n0 (63 : Int)))))) = some (TV.v (IV.int IntKind.i64 (fmI (List.getD w (Int.toNat k) (0 : Int) % (64 : Int))))) ∧
 some [IV.int IntKind.i64 (0 : Int), IV.int IntKind.i64 (0 : Int), IV.int IntKind.i64 (0 : Int), IV.int IntKind.i64 (0 : Int), IV.int IntKind.i64 (0 : Int)] =
 some [IV.int IntKind.i64 (0 : Int), IV.int IntKind.i64 (0 : Int), IV.int IntKind.i64 (0 : Int), IV.int IntKind.i64 (0 : Int), IV.int IntKind.i64 (0 : Int)] ∧
 some
 [IV.int IntKind.i64 (IntKind.wrap IntKind.i64 (bvAnd IntKind.u32 n0 (63 : Int))), IV.int IntKind.i64 (IntKind.wrap IntKind.i64 (bvAnd IntKind.u32 (Int.fdiv n0 (64 : Int)) (7 : Int))),
 IV.int IntKind.i64 (0 : Int), IV.int IntKind.i64 (0 : Int), IV.int IntKind.i64 (0 : Int)] =
 some
 [IV.int IntKind.i64 (List.getD w (Int.toNat k) (0 : Int) % (64 : Int)),
 IV.int IntKind.i64 (if fA (fmI (List.getD w (Int.toNat k) (0 : Int) % (64 : Int))) = true then List.getD w (Int.toNat k) (0 : Int) / (64 : Int) % (8 : Int) else (0 : Int)),
 IV.int IntKind.i64 (0 : Int), IV.int IntKind.i64 (0 : Int), IV.int IntKind.i64 (0 : Int)] ∧
 Heap.mk PT.nil (0 : Nat) = Heap.mk PT.nil (0 : Nat) ∧ (((0 : Int) ≤ k ∧ k < (↑(List.length w) : Int)) ∧ okI (List.getD w (Int.toNat k) (0 : Int) % (64 : Int)) = true) ∧ True)
 (some (TV.v (IV.vslice none (0 : Nat) (List.length w) (1 : Nat) (List.map (IV.int IntKind.u32) w))) = some (TV.v (IV.vslice none (0 : Nat) (List.length w) (1 : Nat) (List.map (IV.int IntKind.u32) w))) ∧
 some (TV.v (IV.int IntKind.i64 k)) = some (TV.v (IV.int IntKind.i64 k)) ∧
 some (TV.l (4 : Nat) (0 : Nat)) = some (TV.l (4 : Nat) (0 : Nat)) ∧
 some (TV.v (IV.int IntKind.u32 n0)) = some (TV.v (IV.int IntKind.u32 (List.getD w (Int.toNat k) (0 : Int)))) ∧
 some (TV.l (8 : Nat) (0 : Nat)) = some (TV.l (8 : Nat) (0 : Nat)) ∧
 some (TV.v (IV.int IntKind.i64 (fmI (IntKind.wrap IntKind.i64 (bvAnd IntKind.u32 n0 (63 : Int)))))) = some (TV.v (IV.int IntKind.i64 (fmI (List.getD w (Int.toNat k) (0 : Int) % (64 : Int))))) ∧
 some [IV.int IntKind.i64 (0 : Int), IV.int IntKind.i64 (0 : Int), IV.int IntKind.i64 (0 : Int), IV.int IntKind.i64 (0 : Int), IV.int IntKind.i64 (0 : Int)] =
 some [IV.int IntKind.i64 (0 : Int), IV.int IntKind.i64 (0 : Int), IV.int IntKind.i64 (0 : Int), IV.int IntKind.i64 (0 : Int), IV.int IntKind.i64 (0 : Int)] ∧
 some [IV.int IntKind.i64 (IntKind.wrap IntKind.i64 (bvAnd IntKind.u32 n0 (63 : Int))), IV.int IntKind.i64 (0 : Int), IV.int IntKind.i64 (0 : Int), IV.int IntKind.i64 (0 : Int), IV.int IntKind.i64 (0 : Int)] =
 some
 [IV.int IntKind.i64 (List.getD w (Int.toNat k) (0 : Int) % (64 : Int)),
 IV.int IntKind.i64 (if fA (fmI (List.getD w (Int.toNat k) (0 : Int) % (64 : Int))) = true then List.getD w (Int.toNat k) (0 : Int) / (64 : Int) % (8 : Int) else (0 : Int)),
 IV.int IntKind.i64 (0 : Int), IV.int IntKind.i64 (0 : Int), IV.int IntKind.i64 (0 : Int)] ∧
 Heap.mk PT.nil (0 : Nat) = Heap.mk PT.nil (0 : Nat) ∧ (((0 : Int) ≤ k ∧ k < (↑(List.length w) : Int)) ∧ okI (List.getD w (Int.toNat k) (0 : Int) % (64 : Int)) = true) ∧ True))
 (some (TV.v (IV.vslice none (0 : Nat) (List.length w) (1 : Nat) (List.map (IV.int IntKind.u32) w))) = some (TV.v (IV.vslice none (0 : Nat) (List.length w) (1 : Nat) (List.map (IV.int IntKind.u32) w))) ∧
 some (TV.v (IV.int IntKind.i64 k)) = some (TV.v (IV.int IntKind.i64 k)) ∧
 some (TV.l (4 : Nat) (0 : Nat)) = some (TV.l (4 : Nat) (0 : Nat)) ∧
 some (TV.v (IV.int IntKind.u32 n0)) = some (TV.v (IV.int IntKind.u32 (List.getD w (Int.toNat k) (0 : Int)))) ∧
 some (TV.l (8 : Nat) (0 : Nat)) = some (TV.l (8 : Nat) (0 : Nat)) ∧
 some (TV.v (IV.int IntKind.i64 (fmI (IntKind.wrap IntKind.i64 (bvAnd IntKind.u32 n0 (63 : Int)))))) = some (TV.v (IV.int IntKind.i64 (fmI (List.getD w (Int.toNat k) (0 : Int) % (64 : Int))))) ∧
 some [IV.int IntKind.i64 (0 : Int), IV.int IntKind.i64 (0 : Int), IV.int IntKind.i64 (0 : Int), IV.int IntKind.i64 (0 : Int), IV.int IntKind.i64 (0 : Int)] =
 some [IV.int IntKind.i64 (0 : Int), IV.int IntKind.i64 (0 : Int), IV.int IntKind.i64 (0 : Int), IV.int IntKind.i64 (0 : Int), IV.int IntKind.i64 (0 : Int)] ∧
 some [IV.int IntKind.i64 (IntKind.wrap IntKind.i64 (bvAnd IntKind.u32 n0 (63 : Int))), IV.int IntKind.i64 (0 : Int), IV.int IntKind.i64 (0 : Int), IV.int IntKind.i64 (0 : Int), IV.int IntKind.i64 (0 : Int)] =
 some
 [IV.int IntKind.i64 (List.getD w (Int.toNat k) (0 : Int) % (64 : Int)),
 IV.int IntKind.i64 (if fA (fmI (List.getD w (Int.toNat k) (0 : Int) % (64 : Int))) = true then List.getD w (Int.toNat k) (0 : Int) / (64 : Int) % (8 : Int) else (0 : Int)), IV.int IntKind.i64 (0 : Int),
 IV.int IntKind.i64 (0 : Int), IV.int IntKind.i64 (0 : Int)] ∧
 Heap.mk PT.nil (0 : Nat) = Heap.mk PT.nil (0 : Nat) ∧ (((0 : Int) ≤ k ∧ k < (↑(List.length w) : Int)) ∧ okI (List.getD w (Int.toNat k) (0 : Int) % (64 : Int)) = true) ∧ True))))) ∧
 (∀ (x : Unit) (b : FF),
 ((0 : Int) ≤ k ∧ k < (↑(List.length w) : Int)) ∧ okI (List.getD w (Int.toNat k) (0 : Int) % (64 : Int)) = true →
 brS (fmI (List.getD w (Int.toNat k) (0 : Int) % (64 : Int)) == (3 : Int))
 (some (TV.v (IV.vslice none (0 : Nat) (List.length w) (1 : Nat) (List.map (IV.int IntKind.u32) w))) = some (TV.v (IV.vslice none (0 : Nat) (List.length w) (1 : Nat) (List.map (IV.int IntKind.u32) w))) ∧
 some (TV.v (IV.int IntKind.i64 k)) = some (TV.v (IV.int IntKind.i64 k)) ∧
 some (TV.l (4 : Nat) (0 : Nat)) = some (TV.l (4 : Nat) (0 : Nat)) ∧
 some (TV.v (IV.int IntKind.u32 (List.getD w (Int.toNat k) (0 : Int)))) = some (TV.v (IV.int IntKind.u32 (List.getD w (Int.toNat k) (0 : Int)))) ∧
 some (TV.l (8 : Nat) (0 : Nat)) = some (TV.l (8 : Nat) (0 : Nat)) ∧
 some (TV.v (IV.int IntKind.i64 (fmI (List.getD w (Int.toNat k) (0 : Int) % (64 : Int))))) = some (TV.v (IV.int IntKind.i64 (fmI (List.getD w (Int.toNat k) (0 : Int) % (64 : Int))))) ∧
 some [IV.int IntKind.i64 (0 : Int), IV.int IntKind.i64 (0 : Int), IV.int IntKind.i64 (0 : Int), IV.int IntKind.i64 (0 : Int), IV.int IntKind.i64 (0 : Int)] =
 some [IV.int IntKind.i64 (0 : Int), IV.int IntKind.i64 (0 : Int), IV.int IntKind.i64 (0 : Int), IV.int IntKind.i64 (0 : Int), IV.int IntKind.i64 (0 : Int)] ∧
 some
 [IV.int IntKind.i64 (List.getD w (Int.toNat k) (0 : Int) % (64 : Int)),
 IV.int IntKind.i64 (if fA (fmI (List.getD w (Int.toNat k) (0 : Int) % (64 : Int))) = true then List.getD w (Int.toNat k) (0 : Int) / (64 : Int) % (8 : Int) else (0 : Int)),
 IV.int IntKind.i64 (IntKind.wrap IntKind.i64 (bvAnd IntKind.u32 (Int.fdiv (List.getD w (Int.toNat k) (0 : Int)) (512 : Int)) (7 : Int))), IV.int IntKind.i64 (0 : Int), IV.int IntKind.i64 (0 : Int)] =
 some
 [IV.int IntKind.i64 (List.getD w (Int.toNat k) (0 : Int) % (64 : Int)),
 IV.int IntKind.i64 (if fA (fmI (List.getD w (Int.toNat k) (0 : Int) % (64 : Int))) = true then List.getD w (Int.toNat k) (0 : Int) / (64 : Int) % (8 : Int) else (0 : Int)),
 IV.int IntKind.i64 (if fB (fmI (List.getD w (Int.toNat k) (0 : Int) % (64 : Int))) = true then List.getD w (Int.toNat k) (0 : Int) / (512 : Int) % (8 : Int) else (0 : Int)), IV.int IntKind.i64 (0 : Int),
 IV.int IntKind.i64 (0 : Int)] ∧
 Heap.mk PT.nil (0 : Nat) = Heap.mk PT.nil (0 : Nat) ∧ (((0 : Int) ≤ k ∧ k < (↑(List.length w) : Int)) ∧ okI (List.getD w (Int.toNat k) (0 : Int) % (64 : Int)) = true) ∧ True)
 (brS (fmI (List.getD w (Int.toNat k) (0 : Int) % (64 : Int)) == (4 : Int))
 (some (TV.v (IV.vslice none (0 : Nat) (List.length w) (1 : Nat) (List.map (IV.int IntKind.u32) w))) = some (TV.v (IV.vslice none (0 : Nat) (List.length w) (1 : Nat) (List.map (IV.int IntKind.u32) w))) ∧
 some (TV.v (IV.int IntKind.i64 k)) = some (TV.v (IV.int IntKind.i64 k)) ∧
 some (TV.l (4 : Nat) (0 : Nat)) = some (TV.l (4 : Nat) (0 : Nat)) ∧
 some (TV.v (IV.int IntKind.u32 (List.getD w (Int.toNat k) (0 : Int)))) = some (TV.v (IV.int IntKind.u32 (List.getD w (Int.toNat k) (0 : Int)))) ∧
 some (TV.l (8 : Nat) (0 : Nat)) = some (TV.l (8 : Nat) (0 : Nat)) ∧
 some (TV.v (IV.int IntKind.i64 (fmI (List.getD w (Int.toNat k) (0 : Int) % (64 : Int))))) = some (TV.v (IV.int IntKind.i64 (fmI (List.getD w (Int.toNat k) (0 : Int) % (64 : Int))))) ∧
 some [IV.int IntKind.i64 (0 : Int), IV.int IntKind.i64 (0 : Int), IV.int IntKind.i64 (0 : Int), IV.int IntKind.i64 (0 : Int), IV.int IntKind.i64 (0 : Int)] =
 some [IV.int IntKind.i64 (0 : Int), IV.int IntKind.i64 (0 : Int), IV.int IntKind.i64 (0 : Int), IV.int IntKind.i64 (0 : Int), IV.int IntKind.i64 (0 : Int)] ∧
 some
 [IV.int IntKind.i64 (List.getD w (Int.toNat k) (0 : Int) % (64 : Int)),
 IV.int IntKind.i64 (if fA (fmI (List.getD w (Int.toNat k) (0 : Int) % (64 : Int))) = true then List.getD w (Int.toNat k) (0 : Int) / (64 : Int) % (8 : Int) else (0 : Int)),
 IV.int IntKind.i64 (IntKind.wrap IntKind.i64 (bvAnd IntKind.u32 (Int.fdiv (List.getD w (Int.toNat k) (0 : Int)) (512 : Int)) (7 : Int))), IV.int IntKind.i64 (0 : Int), IV.int IntKind.i64 (0 : Int)] =
 some
 [IV.int IntKind.i64 (List.getD w (Int.toNat k) (0 : Int) % (64 : Int)),
 IV.int IntKind.i64 (if fA (fmI (List.getD w (Int.toNat k) (0 : Int) % (64 : Int))) = true then List.getD w (Int.toNat k) (0 : Int) / (64 : Int) % (8 : Int) else (0 : Int)),
 IV.int IntKind.i64 (if fB (fmI (List.getD w (Int.toNat k) (0 : Int) % (64 : Int))) = true then List.getD w (Int.toNat k) (0 : Int) / (512 : Int) % (8 : Int) else (0 : Int)), IV.int IntKind.i64 (0 : Int),
 IV.int IntKind.i64 (0 : Int)] ∧
 Heap.mk PT.nil (0 : Nat) = Heap.mk PT.nil (0 : Nat) ∧ (((0 : Int) ≤ k ∧ k < (↑(List.length w) : Int)) ∧ okI (List.getD w (Int.toNat k) (0 : Int) % (64 : Int)) = true) ∧ True)
 (brS (fmI (List.getD w (Int.toNat k) (0 : Int) % (64 : Int)) == (7 : Int))
 (some (TV.v (IV.vslice none (0 : Nat) (List.length w) (1 : Nat) (List.map (IV.int IntKind.u32) w))) = some (TV.v (IV.vslice none (0 : Nat) (List.length w) (1 : Nat) (List.map (IV.int IntKind.u32) w))) ∧
 some (TV.v (IV.int IntKind.i64 k)) = some (TV.v (IV.int IntKind.i64 k)) ∧
 some (TV.l (4 : Nat) (0 : Nat)) = some (TV.l (4 : Nat) (0 : Nat)) ∧
 some (TV.v (IV.int IntKind.u32 (List.getD w (Int.toNat k) (0 : Int)))) = some (TV.v (IV.int IntKind.u32 (List.getD w (Int.toNat k) (0 : Int)))) ∧
 some (TV.l (8 : Nat) (0 : Nat)) = some (TV.l (8 : Nat) (0 : Nat)) ∧
 some (TV.v (IV.int IntKind.i64 (fmI (List.getD w (Int.toNat k) (0 : Int) % (64 : Int))))) = some (TV.v (IV.int IntKind.i64 (fmI (List.getD w (Int.toNat k) (0 : Int) % (64 : Int))))) ∧
 some [IV.int IntKind.i64 (0 : Int), IV.int IntKind.i64 (0 : Int), IV.int IntKind.i64 (0 : Int), IV.int IntKind.i64 (0 : Int), IV.int IntKind.i64 (0 : Int)] =
 some [IV.int IntKind.i64 (0 : Int), IV.int IntKind.i64 (0 : Int), IV.int IntKind.i64 (0 : Int), IV.int IntKind.i64 (0 : Int), IV.int IntKind.i64 (0 : Int)] ∧
 some
 [IV.int IntKind.i64 (List.getD w (Int.toNat k) (0 : Int) % (64 : Int)),
 IV.int IntKind.i64 (if fA (fmI (List.getD w (Int.toNat k) (0 : Int) % (64 : Int))) = true then List.getD w (Int.toNat k) (0 : Int) / (64 : Int) % (8 : Int) else (0 : Int)),
 IV.int IntKind.i64 (IntKind.wrap IntKind.i64 (bvAnd IntKind.u32 (Int.fdiv (List.getD w (Int.toNat k) (0 : Int)) (512 : Int)) (7 : Int))), IV.int IntKind.i64 (0 : Int), IV.int IntKind.i64 (0 : Int)] =
 some
 [IV.int IntKind.i64 (List.getD w (Int.toNat k) (0 : Int) % (64 : Int)),
 IV.int IntKind.i64 (if fA (fmI (List.getD w (Int.toNat k) (0 : Int) % (64 : Int))) = true then List.getD w (Int.toNat k) (0 : Int) / (64 : Int) % (8 : Int) else (0 : Int)),
 IV.int IntKind.i64 (if fB (fmI (List.getD w (Int.toNat k) (0 : Int) % (64 : Int))) = true then List.getD w (Int.toNat k) (0 : Int) / (512 : Int) % (8 : Int) else (0 : Int)),
 IV.int IntKind.i64 (0 : Int), IV.int IntKind.i64 (0 : Int)] ∧
 Heap.mk PT.nil (0 : Nat) = Heap.mk PT.nil (0 : Nat) ∧ (((0 : Int) ≤ k ∧ k < (↑(List.length w) : Int)) ∧ okI (List.getD w (Int.toNat k) (0 : Int) % (64 : Int)) = true) ∧ True)
 (some (TV.v (IV.vslice none (0 : Nat) (List.length w) (1 : Nat) (List.map (IV.int IntKind.u32) w))) = some (TV.v (IV.vslice none (0 : Nat) (List.length w) (1 : Nat) (List.map (IV.int IntKind.u32) w))) ∧
 some (TV.v (IV.int IntKind.i64 k)) = some (TV.v (IV.int IntKind.i64 k)) ∧
 some (TV.l (4 : Nat) (0 : Nat)) = some (TV.l (4 : Nat) (0 : Nat)) ∧
 some (TV.v (IV.int IntKind.u32 (List.getD w (Int.toNat k) (0 : Int)))) = some (TV.v (IV.int IntKind.u32 (List.getD w (Int.toNat k) (0 : Int)))) ∧
 some (TV.l (8 : Nat) (0 : Nat)) = some (TV.l (8 : Nat) (0 : Nat)) ∧
 some (TV.v (IV.int IntKind.i64 (fmI (List.getD w (Int.toNat k) (0 : Int) % (64 : Int))))) = some (TV.v (IV.int IntKind.i64 (fmI (List.getD w (Int.toNat k) (0 : Int) % (64 : Int))))) ∧
 some [IV.int IntKind.i64 (0 : Int), IV.int IntKind.i64 (0 : Int), IV.int IntKind.i64 (0 : Int), IV.int IntKind.i64 (0 : Int), IV.int IntKind.i64 (0 : Int)] =
 some [IV.int IntKind.i64 (0 : Int), IV.int IntKind.i64 (0 : Int), IV.int IntKind.i64 (0 : Int), IV.int IntKind.i64 (0 : Int), IV.int IntKind.i64 (0 : Int)] ∧
 some
 [IV.int IntKind.i64 (List.getD w (Int.toNat k) (0 : Int) % (64 : Int)),
 IV.int IntKind.i64 (if fA (fmI (List.getD w (Int.toNat k) (0 : Int) % (64 : Int))) = true then List.getD w (Int.toNat k) (0 : Int) / (64 : Int) % (8 : Int) else (0 : Int)), IV.int IntKind.i64 (0 : Int),
 IV.int IntKind.i64 (0 : Int), IV.int IntKind.i64 (0 : Int)] =
 some
 [IV.int IntKind.i64 (List.getD w (Int.toNat k) (0 : Int) % (64 : Int)),
 IV.int IntKind.i64 (if fA (fmI (List.getD w (Int.toNat k) (0 : Int) % (64 : Int))) = true then List.getD w (Int.toNat k) (0 : Int) / (64 : Int) % (8 : Int) else (0 : Int)),
 IV.int IntKind.i64 (if fB (fmI (List.getD w (Int.toNat k) (0 : Int) % (64 : Int))) = true then List.getD w (Int.toNat k) (0 : Int) / (512 : Int) % (8 : Int) else (0 : Int)),
 IV.int IntKind.i64 (0 : Int), IV.int IntKind.i64 (0 : Int)] ∧
 Heap.mk PT.nil (0 : Nat) = Heap.mk PT.nil (0 : Nat) ∧ (((0 : Int) ≤ k ∧ k < (↑(List.length w) : Int)) ∧ okI (List.getD w (Int.toNat k) (0 : Int) % (64 : Int)) = true) ∧ True)))) ∧
 (∀ (x : Unit) (b : FF),
 ((0 : Int) ≤ k ∧ k < (↑(List.length w) : Int)) ∧ okI (List.getD w (Int.toNat k) (0 : Int) % (64 : Int)) = true →
 brS (fmI (List.getD w (Int.toNat k) (0 : Int) % (64 : Int)) == (4 : Int))
 (some (TV.v (IV.vslice none (0 : Nat) (List.length w) (1 : Nat) (List.map (IV.int IntKind.u32) w))) = some (TV.v (IV.vslice none (0 : Nat) (List.length w) (1 : Nat) (List.map (IV.int IntKind.u32) w))) ∧
 some (TV.v (IV.int IntKind.i64 k)) = some (TV.v (IV.int IntKind.i64 k)) ∧
 some (TV.l (4 : Nat) (0 : Nat)) = some (TV.l (4 : Nat) (0 : Nat)) ∧
 some (TV.v (IV.int IntKind.u32 (List.getD w (Int.toNat k) (0 : Int)))) = some (TV.v (IV.int IntKind.u32 (List.getD w (Int.toNat k) (0 : Int)))) ∧
 some (TV.l (8 : Nat) (0 : Nat)) = some (TV.l (8 : Nat) (0 : Nat)) ∧
 some (TV.v (IV.int IntKind.i64 (fmI (List.getD w (Int.toNat k) (0 : Int) % (64 : Int))))) = some (TV.v (IV.int IntKind.i64 (fmI (List.getD w (Int.toNat k) (0 : Int) % (64 : Int))))) ∧
 some [IV.int IntKind.i64 (0 : Int), IV.int IntKind.i64 (0 : Int), IV.int IntKind.i64 (0 : Int), IV.int IntKind.i64 (0 : Int), IV.int IntKind.i64 (0 : Int)] =
 some [IV.int IntKind.i64 (0 : Int), IV.int IntKind.i64 (0 : Int), IV.int IntKind.i64 (0 : Int), IV.int IntKind.i64 (0 : Int), IV.int IntKind.i64 (0 : Int)] ∧
 some
 [IV.int IntKind.i64 (List.getD w (Int.toNat k) (0 : Int) % (64 : Int)),
 IV.int IntKind.i64 (if fA (fmI (List.getD w (Int.toNat k) (0 : Int) % (64 : Int))) = true then List.getD w (Int.toNat k) (0 : Int) / (64 : Int) % (8 : Int) else (0 : Int)),
 IV.int IntKind.i64 (if fB (fmI (List.getD w (Int.toNat k) (0 : Int) % (64 : Int))) = true then List.getD w (Int.toNat k) (0 : Int) / (512 : Int) % (8 : Int) else (0 : Int)),
 IV.int IntKind.i64 (IntKind.wrap IntKind.i64 (bvAnd IntKind.u32 (Int.fdiv (List.getD w (Int.toNat k) (0 : Int)) (4096 : Int)) (7 : Int))), IV.int IntKind.i64 (0 : Int)] =
 some
 [IV.int IntKind.i64 (List.getD w (Int.toNat k) (0 : Int) % (64 : Int)),
 IV.int IntKind.i64 (if fA (fmI (List.getD w (Int.toNat k) (0 : Int) % (64 : Int))) = true then List.getD w (Int.toNat k) (0 : Int) / (64 : Int) % (8 : Int) else (0 : Int)),
 IV.int IntKind.i64 (if fB (fmI (List.getD w (Int.toNat k) (0 : Int) % (64 : Int))) = true then List.getD w (Int.toNat k) (0 : Int) / (512 : Int) % (8 : Int) else (0 : Int)),
 IV.int IntKind.i64 (if fmI (List.getD w (Int.toNat k) (0 : Int) % (64 : Int)) = (4 : Int) then List.getD w (Int.toNat k) (0 : Int) / (4096 : Int) % (8 : Int) else (0 : Int)),
 IV.int IntKind.i64 (0 : Int)] ∧
 Heap.mk PT.nil (0 : Nat) = Heap.mk PT.nil (0 : Nat) ∧ (((0 : Int) ≤ k ∧ k < (↑(List.length w) : Int)) ∧ okI (List.getD w (Int.toNat k) (0 : Int) % (64 : Int)) = true) ∧ True)
 (some (TV.v (IV.vslice none (0 : Nat) (List.length w) (1 : Nat) (List.map (IV.int IntKind.u32) w))) = some (TV.v (IV.vslice none (0 : Nat) (List.length w) (1 : Nat) (List.map (IV.int IntKind.u32) w))) ∧
 some (TV.v (IV.int IntKind.i64 k)) = some (TV.v (IV.int IntKind.i64 k)) ∧
 some (TV.l (4 : Nat) (0 : Nat)) = some (TV.l (4 : Nat) (0 : Nat)) ∧
 some (TV.v (IV.int IntKind.u32 (List.getD w (Int.toNat k) (0 : Int)))) = some (TV.v (IV.int IntKind.u32 (List.getD w (Int.toNat k) (0 : Int)))) ∧
 some (TV.l (8 : Nat) (0 : Nat)) = some (TV.l (8 : Nat) (0 : Nat)) ∧
 some (TV.v (IV.int IntKind.i64 (fmI (List.getD w (Int.toNat k) (0 : Int) % (64 : Int))))) = some (TV.v (IV.int IntKind.i64 (fmI (List.getD w (Int.toNat k) (0 : Int) % (64 : Int))))) ∧
 some [IV.int IntKind.i64 (0 : Int), IV.int IntKind.i64 (0 : Int), IV.int IntKind.i64 (0 : Int), IV.int IntKind.i64 (0 : Int), IV.int IntKind.i64 (0 : Int)] =
 some [IV.int IntKind.i64 (0 : Int), IV.int IntKind.i64 (0 : Int), IV.int IntKind.i64 (0 : Int), IV.int IntKind.i64 (0 : Int), IV.int IntKind.i64 (0 : Int)] ∧
 some
 [IV.int IntKind.i64 (List.getD w (Int.toNat k) (0 : Int) % (64 : Int)),
 IV.int IntKind.i64 (if fA (fmI (List.getD w (Int.toNat k) (0 : Int) % (64 : Int))) = true then List.getD w (Int.toNat k) (0 : Int) / (64 : Int) % (8 : Int) else (0 : Int)),
 IV.int IntKind.i64 (if fB (fmI (List.getD w (Int.toNat k) (0 : Int) % (64 : Int))) = true then List.getD w (Int.toNat k) (0 : Int) / (512 : Int) % (8 : Int) else (0 : Int)), IV.int IntKind.i64 (0 : Int),
 IV.int IntKind.i64 (0 : Int)] =
 some
 [IV.int IntKind.i64 (List.getD w (Int.toNat k) (0 : Int) % (64 : Int)),
 IV.int IntKind.i64 (if fA (fmI (List.getD w (Int.toNat k) (0 : Int) % (64 : Int))) = true then List.getD w (Int.toNat k) (0 : Int) / (64 : Int) % (8 : Int) else (0 : Int)),
 IV.int IntKind.i64 (if fB (fmI (List.getD w (Int.toNat k) (0 : Int) % (64 : Int))) = true then List.getD w (Int.toNat k) (0 : Int) / (512 : Int) % (8 : Int) else (0 : Int)),
 IV.int IntKind.i64 (if fmI (List.getD w (Int.toNat k) (0 : Int) % (64 : Int)) = (4 : Int) then List.getD w (Int.toNat k) (0 : Int) / (4096 : Int) % (8 : Int) else (0 : Int)),
 IV.int IntKind.i64 (0 : Int)] ∧
 Heap.mk PT.nil (0 : Nat) = Heap.mk PT.nil (0 : Nat) ∧ (((0 : Int) ≤ k ∧ k < (↑(List.length w) : Int)) ∧ okI (List.getD w (Int.toNat k) (0 : Int) % (64 : Int)) = true) ∧ True)) ∧
 (∀ (x : Unit) (b : FF),
 ((0 : Int) ≤ k ∧ k < (↑(List.length w) : Int)) ∧ okI (List.getD w (Int.toNat k) (0 : Int) % (64 : Int)) = true →
 brS (decide (nbI (fmI (List.getD w (Int.toNat k) (0 : Int) % (64 : Int))) > (0 : Int)))
 (needS (decide ((0 : Int) ≤ atI (fmI (List.getD w (Int.toNat k) (0 : Int) % (64 : Int)))))
 (needS (decide ((0 : Int) ≤ IntKind.wrap IntKind.u64 (nbI (fmI (List.getD w (Int.toNat k) (0 : Int) % (64 : Int))) - (1 : Int))))
 (brS
 (decide
 (IntKind.wrap IntKind.i64 (Int.fdiv (List.getD w (Int.toNat k) (0 : Int)) ((2 : Int) ^ min (Int.toNat (atI (fmI (List.getD w (Int.toNat k) (0 : Int) % (64 : Int))))) (32 : Nat))) ≥
 IntKind.wrap IntKind.i64 ((1 : Int) * (2 : Int) ^ min (Int.toNat (IntKind.wrap IntKind.u64 (nbI (fmI (List.getD w (Int.toNat k) (0 : Int) % (64 : Int))) - (1 : Int)))) (64 : Nat))))
 (needS (decide ((0 : Int) ≤ nbI (fmI (List.getD w (Int.toNat k) (0 : Int) % (64 : Int)))))
 (some (TV.v (IV.vslice none (0 : Nat) (List.length w) (1 : Nat) (List.map (IV.int IntKind.u32) w))) = some (TV.v (IV.vslice none (0 : Nat) (List.length w) (1 : Nat) (List.map (IV.int IntKind.u32) w))) ∧
 some (TV.v (IV.int IntKind.i64 k)) = some (TV.v (IV.int IntKind.i64 k)) ∧
 some (TV.l (4 : Nat) (0 : Nat)) = some (TV.l (4 : Nat) (0 : Nat)) ∧
 some (TV.v (IV.int IntKind.u32 (List.getD w (Int.toNat k) (0 : Int)))) = some (TV.v (IV.int IntKind.u32 (List.getD w (Int.toNat k) (0 : Int)))) ∧
 some (TV.l (8 : Nat) (0 : Nat)) = some (TV.l (8 : Nat) (0 : Nat)) ∧
 some (TV.v (IV.int IntKind.i64 (fmI (List.getD w (Int.toNat k) (0 : Int) % (64 : Int))))) = some (TV.v (IV.int IntKind.i64 (fmI (List.getD w (Int.toNat k) (0 : Int) % (64 : Int))))) ∧
 some [IV.int IntKind.i64 (0 : Int), IV.int IntKind.i64 (0 : Int), IV.int IntKind.i64 (0 : Int), IV.int IntKind.i64 (0 : Int), IV.int IntKind.i64 (0 : Int)] =
 some [IV.int IntKind.i64 (0 : Int), IV.int IntKind.i64 (0 : Int), IV.int IntKind.i64 (0 : Int), IV.int IntKind.i64 (0 : Int), IV.int IntKind.i64 (0 : Int)] ∧
 some
 [IV.int IntKind.i64 (List.getD w (Int.toNat k) (0 : Int) % (64 : Int)),
 IV.int IntKind.i64 (if fA (fmI (List.getD w (Int.toNat k) (0 : Int) % (64 : Int))) = true then List.getD w (Int.toNat k) (0 : Int) / (64 : Int) % (8 : Int) else (0 : Int)),
 IV.int IntKind.i64 (if fB (fmI (List.getD w (Int.toNat k) (0 : Int) % (64 : Int))) = true then List.getD w (Int.toNat k) (0 : Int) / (512 : Int) % (8 : Int) else (0 : Int)),
 IV.int IntKind.i64 (if fmI (List.getD w (Int.toNat k) (0 : Int) % (64 : Int)) = (4 : Int) then List.getD w (Int.toNat k) (0 : Int) / (4096 : Int) % (8 : Int) else (0 : Int)),
 IV.int IntKind.i64
 (IntKind.wrap IntKind.i64
 (IntKind.wrap IntKind.i64 (Int.fdiv (List.getD w (Int.toNat k) (0 : Int)) ((2 : Int) ^ min (Int.toNat (atI (fmI (List.getD w (Int.toNat k) (0 : Int) % (64 : Int))))) (32 : Nat))) -
 IntKind.wrap IntKind.i64 ((1 : Int) * (2 : Int) ^ min (Int.toNat (nbI (fmI (List.getD w (Int.toNat k) (0 : Int) % (64 : Int))))) (64 : Nat))))] =
 some
 [IV.int IntKind.i64 (List.getD w (Int.toNat k) (0 : Int) % (64 : Int)),
 IV.int IntKind.i64 (if fA (fmI (List.getD w (Int.toNat k) (0 : Int) % (64 : Int))) = true then List.getD w (Int.toNat k) (0 : Int) / (64 : Int) % (8 : Int) else (0 : Int)),
 IV.int IntKind.i64 (if fB (fmI (List.getD w (Int.toNat k) (0 : Int) % (64 : Int))) = true then List.getD w (Int.toNat k) (0 : Int) / (512 : Int) % (8 : Int) else (0 : Int)),
 IV.int IntKind.i64 (if fmI (List.getD w (Int.toNat k) (0 : Int) % (64 : Int)) = (4 : Int) then List.getD w (Int.toNat k) (0 : Int) / (4096 : Int) % (8 : Int) else (0 : Int)),
 IV.int IntKind.i64 (decN (List.getD w (Int.toNat k) (0 : Int)) (fmI (List.getD w (Int.toNat k) (0 : Int) % (64 : Int))))] ∧
 Heap.mk PT.nil (0 : Nat) = Heap.mk PT.nil (0 : Nat) ∧ (((0 : Int) ≤ k ∧ k < (↑(List.length w) : Int)) ∧ okI (List.getD w (Int.toNat k) (0 : Int) % (64 : Int)) = true) ∧ True))
 (some (TV.v (IV.vslice none (0 : Nat) (List.length w) (1 : Nat) (List.map (IV.int IntKind.u32) w))) = some (TV.v (IV.vslice none (0 : Nat) (List.length w) (1 : Nat) (List.map (IV.int IntKind.u32) w))) ∧
 some (TV.v (IV.int IntKind.i64 k)) = some (TV.v (IV.int IntKind.i64 k)) ∧
 some (TV.l (4 : Nat) (0 : Nat)) = some (TV.l (4 : Nat) (0 : Nat)) ∧
 some (TV.v (IV.int IntKind.u32 (List.getD w (Int.toNat k) (0 : Int)))) = some (TV.v (IV.int IntKind.u32 (List.getD w (Int.toNat k) (0 : Int)))) ∧
 some (TV.l (8 : Nat) (0 : Nat)) = some (TV.l (8 : Nat) (0 : Nat)) ∧
 some (TV.v (IV.int IntKind.i64 (fmI (List.getD w (Int.toNat k) (0 : Int) % (64 : Int))))) = some (TV.v (IV.int IntKind.i64 (fmI (List.getD w (Int.toNat k) (0 : Int) % (64 : Int))))) ∧
 some [IV.int IntKind.i64 (0 : Int), IV.int IntKind.i64 (0 : Int), IV.int IntKind.i64 (0 : Int), IV.int IntKind.i64 (0 : Int), IV.int IntKind.i64 (0 : Int)] =
 some [IV.int IntKind.i64 (0 : Int), IV.int IntKind.i64 (0 : Int), IV.int IntKind.i64 (0 : Int), IV.int IntKind.i64 (0 : Int), IV.int IntKind.i64 (0 : Int)] ∧
 some
 [IV.int IntKind.i64 (List.getD w (Int.toNat k) (0 : Int) % (64 : Int)),
 IV.int IntKind.i64 (if fA (fmI (List.getD w (Int.toNat k) (0 : Int) % (64 : Int))) = true then List.getD w (Int.toNat k) (0 : Int) / (64 : Int) % (8 : Int) else (0 : Int)),
 IV.int IntKind.i64 (if fB (fmI (List.getD w (Int.toNat k) (0 : Int) % (64 : Int))) = true then List.getD w (Int.toNat k) (0 : Int) / (512 : Int) % (8 : Int) else (0 : Int)),
 IV.int IntKind.i64 (if fmI (List.getD w (Int.toNat k) (0 : Int) % (64 : Int)) = (4 : Int) then List.getD w (Int.toNat k) (0 : Int) / (4096 : Int) % (8 : Int) else (0 : Int)),
 IV.int IntKind.i64
 (IntKind.wrap IntKind.i64 (Int.fdiv (List.getD w (Int.toNat k) (0 : Int)) ((2 : Int) ^ min (Int.toNat (atI (fmI (List.getD w (Int.toNat k) (0 : Int) % (64 : Int))))) (32 : Nat))))] =
 some
 [IV.int IntKind.i64 (List.getD w (Int.toNat k) (0 : Int) % (64 : Int)),
 IV.int IntKind.i64 (if fA (fmI (List.getD w (Int.toNat k) (0 : Int) % (64 : Int))) = true then List.getD w (Int.toNat k) (0 : Int) / (64 : Int) % (8 : Int) else (0 : Int)),
 IV.int IntKind.i64 (if fB (fmI (List.getD w (Int.toNat k) (0 : Int) % (64 : Int))) = true then List.getD w (Int.toNat k) (0 : Int) / (512 : Int) % (8 : Int) else (0 : Int)),
 IV.int IntKind.i64 (if fmI (List.getD w (Int.toNat k) (0 : Int) % (64 : Int)) = (4 : Int) then List.getD w (Int.toNat k) (0 : Int) / (4096 : Int) % (8 : Int) else (0 : Int)),
 IV.int IntKind.i64 (decN (List.getD w (Int.toNat k) (0 : Int)) (fmI (List.getD w (Int.toNat k) (0 : Int) % (64 : Int))))] ∧
 Heap.mk PT.nil (0 : Nat) = Heap.mk PT.nil (0 : Nat) ∧ (((0 : Int) ≤ k ∧ k < (↑(List.length w) : Int)) ∧ okI (List.getD w (Int.toNat k) (0 : Int) % (64 : Int)) = true) ∧ True))))
 (some (TV.v (IV.vslice none (0 : Nat) (List.length w) (1 : Nat) (List.map (IV.int IntKind.u32) w))) = some (TV.v (IV.vslice none (0 : Nat) (List.length w) (1 : Nat) (List.map (IV.int IntKind.u32) w))) ∧
 some (TV.v (IV.int IntKind.i64 k)) = some (TV.v (IV.int IntKind.i64 k)) ∧
 some (TV.l (4 : Nat) (0 : Nat)) = some (TV.l (4 : Nat) (0 : Nat)) ∧
 some (TV.v (IV.int IntKind.u32 (List.getD w (Int.toNat k) (0 : Int)))) = some (TV.v (IV.int IntKind.u32 (List.getD w (Int.toNat k) (0 : Int)))) ∧
 some (TV.l (8 : Nat) (0 : Nat)) = some (TV.l (8 : Nat) (0 : Nat)) ∧
 some (TV.v (IV.int IntKind.i64 (fmI (List.getD w (Int.toNat k) (0 : Int) % (64 : Int))))) = some (TV.v (IV.int IntKind.i64 (fmI (List.getD w (Int.toNat k) (0 : Int) % (64 : Int))))) ∧
 some [IV.int IntKind.i64 (0 : Int), IV.int IntKind.i64 (0 : Int), IV.int IntKind.i64 (0 : Int), IV.int IntKind.i64 (0 : Int), IV.int IntKind.i64 (0 : Int)] =
 some [IV.int IntKind.i64 (0 : Int), IV.int IntKind.i64 (0 : Int), IV.int IntKind.i64 (0 : Int), IV.int IntKind.i64 (0 : Int), IV.int IntKind.i64 (0 : Int)] ∧
 some
 [IV.int IntKind.i64 (List.getD w (Int.toNat k) (0 : Int) % (64 : Int)),
 IV.int IntKind.i64 (if fA (fmI (List.getD w (Int.toNat k) (0 : Int) % (64 : Int))) = true then List.getD w (Int.toNat k) (0 : Int) / (64 : Int) % (8 : Int) else (0 : Int)),
 IV.int IntKind.i64 (if fB (fmI (List.getD w (Int.toNat k) (0 : Int) % (64 : Int))) = true then List.getD w (Int.toNat k) (0 : Int) / (512 : Int) % (8 : Int) else (0 : Int)),
 IV.int IntKind.i64 (if fmI (List.getD w (Int.toNat k) (0 : Int) % (64 : Int)) = (4 : Int) then List.getD w (Int.toNat k) (0 : Int) / (4096 : Int) % (8 : Int) else (0 : Int)),
 IV.int IntKind.i64 (0 : Int)] =
 some
 [IV.int IntKind.i64 (List.getD w (Int.toNat k) (0 : Int) % (64 : Int)),
 IV.int IntKind.i64 (if fA (fmI (List.getD w (Int.toNat k) (0 : Int) % (64 : Int))) = true then List.getD w (Int.toNat k) (0 : Int) / (64 : Int) % (8 : Int) else (0 : Int)),
 IV.int IntKind.i64 (if fB (fmI (List.getD w (Int.toNat k) (0 : Int) % (64 : Int))) = true then List.getD w (Int.toNat k) (0 : Int) / (512 : Int) % (8 : Int) else (0 : Int)),
 IV.int IntKind.i64 (if fmI (List.getD w (Int.toNat k) (0 : Int) % (64 : Int)) = (4 : Int) then List.getD w (Int.toNat k) (0 : Int) / (4096 : Int) % (8 : Int) else (0 : Int)),
 IV.int IntKind.i64 (decN (List.getD w (Int.toNat k) (0 : Int)) (fmI (List.getD w (Int.toNat k) (0 : Int) % (64 : Int))))] ∧
 Heap.mk PT.nil (0 : Nat) = Heap.mk PT.nil (0 : Nat) ∧ (((0 : Int) ≤ k ∧ k < (↑(List.length w) : Int)) ∧ okI (List.getD w (Int.toNat k) (0 : Int) % (64 : Int)) = true) ∧ True)) ∧
 (∀ (x : Unit) (b : FF),
 ((0 : Int) ≤ k ∧ k < (↑(List.length w) : Int)) ∧ okI (List.getD w (Int.toNat k) (0 : Int) % (64 : Int)) = true →
 brS (fmI (List.getD w (Int.toNat k) (0 : Int) % (64 : Int)) == (6 : Int))
 (brS (decide (IntKind.wrap IntKind.i64 (k + (2 : Int)) ≥ (↑(List.length w) : Int)))
 (Q
 (IV.tuple
 [IV.agg [IV.int IntKind.i64 (0 : Int), IV.int IntKind.i64 (0 : Int), IV.int IntKind.i64 (0 : Int), IV.int IntKind.i64 (0 : Int), IV.int IntKind.i64 (0 : Int)], IV.int IntKind.i64 (0 : Int),
 IV.int IntKind.i64 (204 : Int)])
 h)
 (needS (decide ((0 : Int) ≤ IntKind.wrap IntKind.i64 (k + (1 : Int))) && decide (IntKind.wrap IntKind.i64 (k + (1 : Int)) < (↑(List.length w) : Int)))
 (ldIS IntKind.u32 (List.map (IV.int IntKind.u32) w) (Int.toNat (IntKind.wrap IntKind.i64 (k + (1 : Int))) * (1 : Nat)) fun (n1 : Int) =>
 needS (decide ((0 : Int) ≤ IntKind.wrap IntKind.i64 (k + (2 : Int))) && decide (IntKind.wrap IntKind.i64 (k + (2 : Int)) < (↑(List.length w) : Int)))
 (ldIS IntKind.u32 (List.map (IV.int IntKind.u32) w) (Int.toNat (IntKind.wrap IntKind.i64 (k + (2 : Int))) * (1 : Nat)) fun (n2 : Int) =>
 some (TV.v (IV.vslice none (0 : Nat) (List.length w) (1 : Nat) (List.map (IV.int IntKind.u32) w))) = some (TV.v (IV.vslice none (0 : Nat) (List.length w) (1 : Nat) (List.map (IV.int IntKind.u32) w))) ∧
 some (TV.v (IV.int IntKind.i64 k)) = some (TV.v (IV.int IntKind.i64 k)) ∧
 some (TV.l (4 : Nat) (0 : Nat)) = some (TV.l (4 : Nat) (0 : Nat)) ∧
 some (TV.v (IV.int IntKind.u32 (List.getD w (Int.toNat k) (0 : Int)))) = some (TV.v (IV.int IntKind.u32 (List.getD w (Int.toNat k) (0 : Int)))) ∧
 some (TV.l (8 : Nat) (0 : Nat)) = some (TV.l (8 : Nat) (0 : Nat)) ∧
 some (TV.v (IV.int IntKind.i64 (3 : Int))) = some (TV.v (IV.int IntKind.i64 (if fmI (List.getD w (Int.toNat k) (0 : Int) % (64 : Int)) = (6 : Int) then (3 : Int) else (1 : Int)))) ∧
 some [IV.int IntKind.i64 (0 : Int), IV.int IntKind.i64 (0 : Int), IV.int IntKind.i64 (0 : Int), IV.int IntKind.i64 (0 : Int), IV.int IntKind.i64 (0 : Int)] =
 some [IV.int IntKind.i64 (0 : Int), IV.int IntKind.i64 (0 : Int), IV.int IntKind.i64 (0 : Int), IV.int IntKind.i64 (0 : Int), IV.int IntKind.i64 (0 : Int)] ∧
 some
 [IV.int IntKind.i64 (List.getD w (Int.toNat k) (0 : Int) % (64 : Int)),
 IV.int IntKind.i64 (if fA (fmI (List.getD w (Int.toNat k) (0 : Int) % (64 : Int))) = true then List.getD w (Int.toNat k) (0 : Int) / (64 : Int) % (8 : Int) else (0 : Int)),
 IV.int IntKind.i64 (if fB (fmI (List.getD w (Int.toNat k) (0 : Int) % (64 : Int))) = true then List.getD w (Int.toNat k) (0 : Int) / (512 : Int) % (8 : Int) else (0 : Int)),
 IV.int IntKind.i64 (if fmI (List.getD w (Int.toNat k) (0 : Int) % (64 : Int)) = (4 : Int) then List.getD w (Int.toNat k) (0 : Int) / (4096 : Int) % (8 : Int) else (0 : Int)),
 IV.int IntKind.i64 (IntKind.wrap IntKind.i64 (bvOr IntKind.u64 (IntKind.wrap IntKind.u64 n1) (IntKind.wrap IntKind.u64 (IntKind.wrap IntKind.u64 n2 * (4294967296 : Int)))))] =
 some
 [IV.int IntKind.i64 (List.getD w (Int.toNat k) (0 : Int) % (64 : Int)),
 IV.int IntKind.i64 (if fA (fmI (List.getD w (Int.toNat k) (0 : Int) % (64 : Int))) = true then List.getD w (Int.toNat k) (0 : Int) / (64 : Int) % (8 : Int) else (0 : Int)),
 IV.int IntKind.i64 (if fB (fmI (List.getD w (Int.toNat k) (0 : Int) % (64 : Int))) = true then List.getD w (Int.toNat k) (0 : Int) / (512 : Int) % (8 : Int) else (0 : Int)),
 IV.int IntKind.i64 (if fmI (List.getD w (Int.toNat k) (0 : Int) % (64 : Int)) = (4 : Int) then List.getD w (Int.toNat k) (0 : Int) / (4096 : Int) % (8 : Int) else (0 : Int)),
 IV.int IntKind.i64
 (if fmI (List.getD w (Int.toNat k) (0 : Int) % (64 : Int)) = (6 : Int) then wide (List.getD w (Int.toNat k + (1 : Nat)) (0 : Int)) (List.getD w (Int.toNat k + (2 : Nat)) (0 : Int))
 else decN (List.getD w (Int.toNat k) (0 : Int)) (fmI (List.getD w (Int.toNat k) (0 : Int) % (64 : Int))))] ∧
 Heap.mk PT.nil (0 : Nat) = Heap.mk PT.nil (0 : Nat) ∧
 ((((0 : Int) ≤ k ∧ k < (↑(List.length w) : Int)) ∧ okI (List.getD w (Int.toNat k) (0 : Int) % (64 : Int)) = true) ∧
 (fmI (List.getD w (Int.toNat k) (0 : Int) % (64 : Int)) = (6 : Int) → Int.toNat k + (3 : Nat) ≤ List.length w)) ∧
 True))))
 (some (TV.v (IV.vslice none (0 : Nat) (List.length w) (1 : Nat) (List.map (IV.int IntKind.u32) w))) = some (TV.v (IV.vslice none (0 : Nat) (List.length w) (1 : Nat) (List.map (IV.int IntKind.u32) w))) ∧
 some (TV.v (IV.int IntKind.i64 k)) = some (TV.v (IV.int IntKind.i64 k)) ∧
 some (TV.l (4 : Nat) (0 : Nat)) = some (TV.l (4 : Nat) (0 : Nat)) ∧
 some (TV.v (IV.int IntKind.u32 (List.getD w (Int.toNat k) (0 : Int)))) = some (TV.v (IV.int IntKind.u32 (List.getD w (Int.toNat k) (0 : Int)))) ∧
 some (TV.l (8 : Nat) (0 : Nat)) = some (TV.l (8 : Nat) (0 : Nat)) ∧
 some (TV.v (IV.int IntKind.i64 (1 : Int))) = some (TV.v (IV.int IntKind.i64 (if fmI (List.getD w (Int.toNat k) (0 : Int) % (64 : Int)) = (6 : Int) then (3 : Int) else (1 : Int)))) ∧
 some [IV.int IntKind.i64 (0 : Int), IV.int IntKind.i64 (0 : Int), IV.int IntKind.i64 (0 : Int), IV.int IntKind.i64 (0 : Int), IV.int IntKind.i64 (0 : Int)] =
 some [IV.int IntKind.i64 (0 : Int), IV.int IntKind.i64 (0 : Int), IV.int IntKind.i64 (0 : Int), IV.int IntKind.i64 (0 : Int), IV.int IntKind.i64 (0 : Int)] ∧
 some
 [IV.int IntKind.i64 (List.getD w (Int.toNat k) (0 : Int) % (64 : Int)),
 IV.int IntKind.i64 (if fA (fmI (List.getD w (Int.toNat k) (0 : Int) % (64 : Int))) = true then List.getD w (Int.toNat k) (0 : Int) / (64 : Int) % (8 : Int) else (0 : Int)),
 IV.int IntKind.i64 (if fB (fmI (List.getD w (Int.toNat k) (0 : Int) % (64 : Int))) = true then List.getD w (Int.toNat k) (0 : Int) / (512 : Int) % (8 : Int) else (0 : Int)),
 IV.int IntKind.i64 (if fmI (List.getD w (Int.toNat k) (0 : Int) % (64 : Int)) = (4 : Int) then List.getD w (Int.toNat k) (0 : Int) / (4096 : Int) % (8 : Int) else (0 : Int)),
 IV.int IntKind.i64 (decN (List.getD w (Int.toNat k) (0 : Int)) (fmI (List.getD w (Int.toNat k) (0 : Int) % (64 : Int))))] =
 some
 [IV.int IntKind.i64 (List.getD w (Int.toNat k) (0 : Int) % (64 : Int)),
 IV.int IntKind.i64 (if fA (fmI (List.getD w (Int.toNat k) (0 : Int) % (64 : Int))) = true then List.getD w (Int.toNat k) (0 : Int) / (64 : Int) % (8 : Int) else (0 : Int)),
 IV.int IntKind.i64 (if fB (fmI (List.getD w (Int.toNat k) (0 : Int) % (64 : Int))) = true then List.getD w (Int.toNat k) (0 : Int) / (512 : Int) % (8 : Int) else (0 : Int)),
 IV.int IntKind.i64 (if fmI (List.getD w (Int.toNat k) (0 : Int) % (64 : Int)) = (4 : Int) then List.getD w (Int.toNat k) (0 : Int) / (4096 : Int) % (8 : Int) else (0 : Int)),
 IV.int IntKind.i64
 (if fmI (List.getD w (Int.toNat k) (0 : Int) % (64 : Int)) = (6 : Int) then wide (List.getD w (Int.toNat k + (1 : Nat)) (0 : Int)) (List.getD w (Int.toNat k + (2 : Nat)) (0 : Int))
 else decN (List.getD w (Int.toNat k) (0 : Int)) (fmI (List.getD w (Int.toNat k) (0 : Int) % (64 : Int))))] ∧
 Heap.mk PT.nil (0 : Nat) = Heap.mk PT.nil (0 : Nat) ∧
 ((((0 : Int) ≤ k ∧ k < (↑(List.length w) : Int)) ∧ okI (List.getD w (Int.toNat k) (0 : Int) % (64 : Int)) = true) ∧
 (fmI (List.getD w (Int.toNat k) (0 : Int) % (64 : Int)) = (6 : Int) → Int.toNat k + (3 : Nat) ≤ List.length w)) ∧
 True)) ∧
 (∀ (x : Unit) (b : FF),
 (((0 : Int) ≤ k ∧ k < (↑(List.length w) : Int)) ∧ okI (List.getD w (Int.toNat k) (0 : Int) % (64 : Int)) = true) ∧
 (fmI (List.getD w (Int.toNat k) (0 : Int) % (64 : Int)) = (6 : Int) → Int.toNat k + (3 : Nat) ≤ List.length w) →
 ∃ (l : List In),
 ((1 : Nat) = List.length l ∧
 [IV.int IntKind.i64 (List.getD w (Int.toNat k) (0 : Int) % (64 : Int)),
 IV.int IntKind.i64 (if fA (fmI (List.getD w (Int.toNat k) (0 : Int) % (64 : Int))) = true then List.getD w (Int.toNat k) (0 : Int) / (64 : Int) % (8 : Int) else (0 : Int)),
 IV.int IntKind.i64 (if fB (fmI (List.getD w (Int.toNat k) (0 : Int) % (64 : Int))) = true then List.getD w (Int.toNat k) (0 : Int) / (512 : Int) % (8 : Int) else (0 : Int)),
 IV.int IntKind.i64 (if fmI (List.getD w (Int.toNat k) (0 : Int) % (64 : Int)) = (4 : Int) then List.getD w (Int.toNat k) (0 : Int) / (4096 : Int) % (8 : Int) else (0 : Int)),
 IV.int IntKind.i64
 (if fmI (List.getD w (Int.toNat k) (0 : Int) % (64 : Int)) = (6 : Int) then wide (List.getD w (Int.toNat k + (1 : Nat)) (0 : Int)) (List.getD w (Int.toNat k + (2 : Nat)) (0 : Int))
 else decN (List.getD w (Int.toNat k) (0 : Int)) (fmI (List.getD w (Int.toNat k) (0 : Int) % (64 : Int))))] =
 List.flatMap cIns l) ∧
 (List.length l ≤ (1000 : Nat) ∧ (1 : Nat) ≤ List.length l) ∧
 ((∀ (i : In), i ∈ l → okIn i = true) →
 ∀ (e : Nat) (h' : Heap),
 needS (true && decide ((0 : Int) < (↑(List.length (List.flatMap encW l)) : Int)))
 (ldIS IntKind.u32 (List.map (IV.int IntKind.u32) (List.flatMap encW l)) (0 : Nat) fun (n3 : Int) =>
 brS (n3 != List.getD w (Int.toNat k) (0 : Int))
 (Q
 (IV.tuple
 [IV.agg [IV.int IntKind.i64 (0 : Int), IV.int IntKind.i64 (0 : Int), IV.int IntKind.i64 (0 : Int), IV.int IntKind.i64 (0 : Int), IV.int IntKind.i64 (0 : Int)], IV.int IntKind.i64 (0 : Int),
 IV.int IntKind.i64 (204 : Int)])
 h)
 (Q
 (IV.tuple
 [IV.agg
 [IV.int IntKind.i64 (List.getD w (Int.toNat k) (0 : Int) % (64 : Int)),
 IV.int IntKind.i64 (if fA (fmI (List.getD w (Int.toNat k) (0 : Int) % (64 : Int))) = true then List.getD w (Int.toNat k) (0 : Int) / (64 : Int) % (8 : Int) else (0 : Int)),
 IV.int IntKind.i64 (if fB (fmI (List.getD w (Int.toNat k) (0 : Int) % (64 : Int))) = true then List.getD w (Int.toNat k) (0 : Int) / (512 : Int) % (8 : Int) else (0 : Int)),
 IV.int IntKind.i64 (if fmI (List.getD w (Int.toNat k) (0 : Int) % (64 : Int)) = (4 : Int) then List.getD w (Int.toNat k) (0 : Int) / (4096 : Int) % (8 : Int) else (0 : Int)),
 IV.int IntKind.i64
 (if fmI (List.getD w (Int.toNat k) (0 : Int) % (64 : Int)) = (6 : Int) then wide (List.getD w (Int.toNat k + (1 : Nat)) (0 : Int)) (List.getD w (Int.toNat k + (2 : Nat)) (0 : Int))
 else decN (List.getD w (Int.toNat k) (0 : Int)) (fmI (List.getD w (Int.toNat k) (0 : Int) % (64 : Int))))],
 IV.int IntKind.i64 (if fmI (List.getD w (Int.toNat k) (0 : Int) % (64 : Int)) = (6 : Int) then (3 : Int) else (1 : Int)), IV.int IntKind.i64 (0 : Int)])
 h))) ∧
 ((¬∀ (i : In), i ∈ l → okIn i = true) →
 ∀ (h' : Heap),
 Q
 (IV.tuple
 [IV.agg [IV.int IntKind.i64 (0 : Int), IV.int IntKind.i64 (0 : Int), IV.int IntKind.i64 (0 : Int), IV.int IntKind.i64 (0 : Int), IV.int IntKind.i64 (0 : Int)], IV.int IntKind.i64 (0 : Int),
 IV.int IntKind.i64 (204 : Int)])
 h)) ∧
 True)) := by kernel_rfl
set_option maxHeartbeats 4000000 in
theorem sRDecode : ∀ xs h Q, kRDecode xs h Q → CallW env 35 xs h Q := by
  intro xs h Q hk
  unfold kRDecode at hk
  split at hk
  · rename_i e1 n1 c1 k
    obtain ⟨w, ⟨rfl, rfl⟩, hb, hk⟩ := hk
    refine dF_run (okDecode) (vRDecode w e1 k h Q) ?_
    obtain ⟨hw, hl, hk0⟩ := hb
    have hx := getD_b hw k.toNat
    have hx1 := getD_b hw (k.toNat + 1)
    have hx2 := getD_b hw (k.toNat + 2)
    refine needS_intro (by simp only [pureL, pureB, pureL_ints, Bool.and_true]) ⟨brS_intro (fun c1 => ?_) (fun c1 => brS_intro (fun c2 => ?_) (fun c2 => needS_intro (by simp at c1 c2; simp; omega) ?_)), ?_, ?_, ?_, ?_, ?_, trivial⟩
    · simp only [decide_eq_true_eq] at c1
      rw [show decR w k = err from if_pos (.inl c1)] at hk
      exact hk
    · simp only [decide_eq_true_eq] at c2
      rw [show decR w k = err from if_pos (.inr c2)] at hk
      exact hk
    · simp only [decide_eq_false_iff_not] at c1 c2
      refine ldIS_x (i := k.toNat) (by omega) (by omega) ?_
      have f1 : ∀ z : Int, z.fdiv 64 = z / 64 := fun z => fdiv_eq _ _ (by omega)
      simp only [op_of, reg_of, f1]
      have hEr : okI (w.getD k.toNat 0 % 64) = false → decR w k = err := fun c3 => by unfold decR; rw [if_neg (by omega), if_pos (.inl c3)]
      generalize w.getD k.toNat 0 = x at *
      refine brS_intro (fun c3 => ?_) (fun c3 => ?_)
      · rw [beq_iff_eq, f_zero] at c3
        rw [hEr c3] at hk
        exact hk
      rw [beq_eq_false_iff_ne, ne_eq, f_zero, Bool.not_eq_false] at c3
      have hr := f_range c3
      have hA := fA_iff hr
      refine brS_intro (fun c4 => brS_intro (fun c5 => ?_) (fun c5 => ?_)) (fun c4 => ?_)
      all_goals (try rw [bne_iff_ne] at c4)
      all_goals (try rw [bne_iff_ne] at c5)
      all_goals (try rw [bne_eq_false_iff_eq] at c4)
      all_goals (try rw [bne_eq_false_iff_eq] at c5)
      · have e : fA (fmI (x % 64)) = true := hA.2 ⟨c4, c5⟩
        refine ⟨(by first | rfl | trivial), (by first | rfl | trivial), (by first | rfl | trivial), (by first | rfl | trivial), (by first | rfl | trivial), (by first | rfl | trivial), (by first | rfl | trivial), ?_, (by first | rfl | trivial), ⟨⟨by omega, by omega⟩, c3⟩, trivial⟩
        simp only [e, if_true]
      · have e : fA (fmI (x % 64)) = false := by rw [← Bool.not_eq_true, hA]; omega
        refine ⟨(by first | rfl | trivial), (by first | rfl | trivial), (by first | rfl | trivial), (by first | rfl | trivial), (by first | rfl | trivial), (by first | rfl | trivial), (by first | rfl | trivial), ?_, (by first | rfl | trivial), ⟨⟨by omega, by omega⟩, c3⟩, trivial⟩
        simp [e]
      · have e : fA (fmI (x % 64)) = false := by rw [← Bool.not_eq_true, hA]; omega
        refine ⟨(by first | rfl | trivial), (by first | rfl | trivial), (by first | rfl | trivial), (by first | rfl | trivial), (by first | rfl | trivial), (by first | rfl | trivial), (by first | rfl | trivial), ?_, (by first | rfl | trivial), ⟨⟨by omega, by omega⟩, c3⟩, trivial⟩
        simp [e]
    · intro _ _ hp
      obtain ⟨⟨c1, c2⟩, c3⟩ := hp
      have f1 : ∀ z : Int, z.fdiv 512 = z / 512 := fun z => fdiv_eq _ _ (by omega)
      simp only [reg_of, f1]
      generalize w.getD k.toNat 0 = x at *
      refine brS_intro (fun c4 => ?_) (fun c4 => brS_intro (fun c5 => ?_) (fun c5 => brS_intro (fun c6 => ?_) (fun c6 => ?_)))
      · refine ⟨(by first | rfl | trivial), (by first | rfl | trivial), (by first | rfl | trivial), (by first | rfl | trivial), (by first | rfl | trivial), (by first | rfl | trivial), (by first | rfl | trivial), ?_, (by first | rfl | trivial), ⟨⟨by omega, by omega⟩, c3⟩, trivial⟩
        rw [beq_iff_eq] at c4; simp [c4, fB]
      · refine ⟨(by first | rfl | trivial), (by first | rfl | trivial), (by first | rfl | trivial), (by first | rfl | trivial), (by first | rfl | trivial), (by first | rfl | trivial), (by first | rfl | trivial), ?_, (by first | rfl | trivial), ⟨⟨by omega, by omega⟩, c3⟩, trivial⟩
        rw [beq_iff_eq] at c5; simp [c5, fB]
      · refine ⟨(by first | rfl | trivial), (by first | rfl | trivial), (by first | rfl | trivial), (by first | rfl | trivial), (by first | rfl | trivial), (by first | rfl | trivial), (by first | rfl | trivial), ?_, (by first | rfl | trivial), ⟨⟨by omega, by omega⟩, c3⟩, trivial⟩
        rw [beq_iff_eq] at c6; simp [c6, fB]
      · refine ⟨(by first | rfl | trivial), (by first | rfl | trivial), (by first | rfl | trivial), (by first | rfl | trivial), (by first | rfl | trivial), (by first | rfl | trivial), (by first | rfl | trivial), ?_, (by first | rfl | trivial), ⟨⟨by omega, by omega⟩, c3⟩, trivial⟩
        simp [fB, c4, c5, c6]
    · intro _ _ hp
      obtain ⟨⟨c1, c2⟩, c3⟩ := hp
      have f1 : ∀ z : Int, z.fdiv 4096 = z / 4096 := fun z => fdiv_eq _ _ (by omega)
      simp only [reg_of, f1]
      generalize w.getD k.toNat 0 = x at *
      refine brS_intro (fun c4 => ?_) (fun c4 => ?_)
      · rw [beq_iff_eq] at c4
        refine ⟨(by first | rfl | trivial), (by first | rfl | trivial), (by first | rfl | trivial), (by first | rfl | trivial), (by first | rfl | trivial), (by first | rfl | trivial), (by first | rfl | trivial), ?_, (by first | rfl | trivial), ⟨⟨by omega, by omega⟩, c3⟩, trivial⟩
        simp [c4]
      · rw [beq_eq_false_iff_ne] at c4
        refine ⟨(by first | rfl | trivial), (by first | rfl | trivial), (by first | rfl | trivial), (by first | rfl | trivial), (by first | rfl | trivial), (by first | rfl | trivial), (by first | rfl | trivial), ?_, (by first | rfl | trivial), ⟨⟨by omega, by omega⟩, c3⟩, trivial⟩
        simp [c4]
    · intro _ _ hp
      obtain ⟨⟨c1, c2⟩, c3⟩ := hp
      generalize w.getD k.toNat 0 = x at *
      have hnb := nb_nonneg (fmI (x % 64))
      refine brS_intro (fun c4 => needS_intro (by simp [hnb]) (needS_intro (by rw [decide_eq_true_eq, Go.M30.u64w]; omega) (brS_intro (fun c5 => needS_intro (by simp [hnb]) ?_) (fun c5 => ?_)))) (fun c4 => ?_)
      · rw [decide_eq_true_eq] at c4 c5
        refine ⟨(by first | rfl | trivial), (by first | rfl | trivial), (by first | rfl | trivial), (by first | rfl | trivial), (by first | rfl | trivial), (by first | rfl | trivial), (by first | rfl | trivial), ?_, (by first | rfl | trivial), ⟨⟨by omega, by omega⟩, c3⟩, trivial⟩
        rw [dec_ref hx c4, if_pos c5]
      · rw [decide_eq_true_eq] at c4
        rw [decide_eq_false_iff_not] at c5
        refine ⟨(by first | rfl | trivial), (by first | rfl | trivial), (by first | rfl | trivial), (by first | rfl | trivial), (by first | rfl | trivial), (by first | rfl | trivial), (by first | rfl | trivial), ?_, (by first | rfl | trivial), ⟨⟨by omega, by omega⟩, c3⟩, trivial⟩
        rw [dec_ref hx c4, if_neg c5]
      · rw [decide_eq_false_iff_not] at c4
        refine ⟨(by first | rfl | trivial), (by first | rfl | trivial), (by first | rfl | trivial), (by first | rfl | trivial), (by first | rfl | trivial), (by first | rfl | trivial), (by first | rfl | trivial), ?_, (by first | rfl | trivial), ⟨⟨by omega, by omega⟩, c3⟩, trivial⟩
        rw [decN_zero c4]
    · intro _ _ hp
      obtain ⟨⟨c1, c2⟩, c3⟩ := hp
      refine brS_intro (fun c4 => ?_) (fun c4 => ?_)
      · rw [beq_iff_eq] at c4
        have w2 : IntKind.i64.wrap (k + 2) = k + 2 := IntWalk.i64_in _ (by omega)
        have w1 : IntKind.i64.wrap (k + 1) = k + 1 := IntWalk.i64_in _ (by omega)
        rw [w2, w1]
        refine brS_intro (fun c5 => ?_) (fun c5 => ?_)
        · rw [decide_eq_true_eq] at c5
          rw [show decR w k = err by unfold decR; rw [if_neg (by omega), if_pos (.inr ⟨c4, by omega⟩)]] at hk
          exact hk
        · rw [decide_eq_false_iff_not] at c5
          refine needS_intro (by simp; omega) (ldIS_x (i := k.toNat + 1) (by omega) (by omega) (needS_intro (by simp; omega) (ldIS_x (i := k.toNat + 2) (by omega) (by omega) ?_)))
          rw [wide_prog hx1 hx2]
          refine ⟨(by first | rfl | trivial), (by first | rfl | trivial), (by first | rfl | trivial), (by first | rfl | trivial), (by first | rfl | trivial), ?_, (by first | rfl | trivial), ?_, (by first | rfl | trivial), ⟨⟨⟨c1, c2⟩, c3⟩, fun _ => by omega⟩, trivial⟩
          · rw [if_pos c4]
          · rw [if_pos c4]
      · rw [beq_eq_false_iff_ne] at c4
        refine ⟨(by first | rfl | trivial), (by first | rfl | trivial), (by first | rfl | trivial), (by first | rfl | trivial), (by first | rfl | trivial), ?_, (by first | rfl | trivial), ?_, (by first | rfl | trivial), ⟨⟨⟨c1, c2⟩, c3⟩, fun e => absurd e c4⟩, trivial⟩
        · rw [if_neg c4]
        · rw [if_neg c4]
    · intro _ _ hp
      obtain ⟨⟨⟨c1, c2⟩, c3⟩, h6⟩ := hp
      have hR : decR w k = if okIn (dI w k) = true ∧ word1 (dI w k) = w.getD k.toNat 0 then (dI w k, if fmI (w.getD k.toNat 0 % 64) = 6 then 3 else 1, 0) else err := by
        unfold decR
        rw [if_neg (by omega), if_neg (by rw [c3]; simp; exact h6)]
      refine ⟨[dI w k], ⟨rfl, rfl⟩, ⟨by simp, by simp⟩, fun hv e h' => ?_, fun hv h' => ?_⟩
      · have hv : okIn (dI w k) = true := hv _ (by simp)
        rw [show [dI w k].flatMap encW = encW (dI w k) by simp]
        have hpos := (encW_pos (dI w k)).1
        refine needS_intro (by simp; omega) (ldIS_map (i := 0) (l := encW (dI w k)) (by omega) ?_)
        have e0 : (encW (dI w k))[0]'(by omega) = word1 (dI w k) := by
          have := encW_head (dI w k)
          rw [List.getElem?_eq_getElem (by omega)] at this
          exact Option.some.inj this
        refine brS_intro (fun c5 => ?_) (fun c5 => ?_)
        · rw [bne_iff_ne] at c5
          rw [hR, if_neg (fun q => c5 (e0.trans q.2))] at hk
          exact hk
        · rw [bne_eq_false_iff_eq] at c5
          rw [hR, if_pos ⟨hv, e0.symm.trans c5⟩] at hk
          exact hk
      · have : okIn (dI w k) = false := by
          cases hq : okIn (dI w k)
          · rfl
          · exact absurd (fun i hi => by rw [List.mem_singleton] at hi; rw [hi]; exact hq) hv
        rw [hR, if_neg (by rw [this]; simp)] at hk
        exact hk
  · exact hk.elim
def cRDecode := addC 35 kRDecode cDecode
theorem okRDecode : Sound env cRDecode := sound_add sRDecode (okDecode)

end Go.Proofs.YtlenjfbmpekabaaDoor
