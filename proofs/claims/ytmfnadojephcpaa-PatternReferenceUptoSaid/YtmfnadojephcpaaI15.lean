/-
  Patterns: what the program's Instantiate computes, whole.
  Conditions: none.
-/
import Derived.Test.YtmfnadojephcpaaH15
import Derived.KernelRfl
set_option linter.unusedVariables false
set_option linter.unusedSimpArgs false
namespace Go.Proofs.Ytmfnadojephcpaa
open Go.Pv Go.M15
def itInv (v op im iv : Int) (ks : List T) (vars imms : List Int) (l : List Nd) : Inv' := atX (Nat × Heap) (fun x => [(0, .v (.vslice none 0 (l).length 3 ((l).flatMap cN))), (2, .v (.vslice none 0 (vars).length 1 ((vars).map (IV.int .i64)))), (3, .v (.vslice none 0 (imms).length 1 ((imms).map (IV.int .i64)))), (5, .l 5 0), (10, .v (.ptr 1 0)), (21, .v (.vslice none 0 (l).length 3 ((l).flatMap cN))), (22, .v (.int .i64 l.length)), (23, .v (.int .i64 x.1))]) (fun _ => [(5, [.int .i64 v, .int .i64 op, .int .i64 im, .int .i64 iv, .vslice none 0 ks.length 5 (cTs ks)])]) (fun x => x.2) (fun x => x.1 ≤ l.length ∧ IZ x.2 1 0 vars imms (l.take x.1)) (fun x => l.length - x.1)
def it6 (v op im iv : Int) (ks : List T) (vars imms : List Int) (l : List Nd) : Inv' := .or
  (atX (Nat × Heap × Nd) (fun x => [(0, .v (.vslice none 0 (l).length 3 ((l).flatMap cN))), (2, .v (.vslice none 0 (vars).length 1 ((vars).map (IV.int .i64)))), (3, .v (.vslice none 0 (imms).length 1 ((imms).map (IV.int .i64)))), (5, .l 5 0), (10, .v (.ptr 1 0)), (21, .v (.vslice none 0 (l).length 3 ((l).flatMap cN))), (22, .v (.int .i64 l.length)), (23, .v (.int .i64 x.1)), (11, .v (.int .i64 x.1)), (12, .l 12 0)]) (fun x => [(5, [.int .i64 v, .int .i64 op, .int .i64 im, .int .i64 iv, .vslice none 0 ks.length 5 (cTs ks)]), (12, [.int .i64 x.2.2.op, .int .i64 x.2.2.im, .nilslice])]) (fun x => x.2.1) (fun x => (l[x.1]? = some x.2.2 ∧ x.2.2.ks = []) ∧ IZ x.2.1 1 0 vars imms (l.take x.1)) (fun x => l.length - x.1))
  (atX (Nat × Heap × Nd × Nat × Nat) (fun x => [(0, .v (.vslice none 0 (l).length 3 ((l).flatMap cN))), (2, .v (.vslice none 0 (vars).length 1 ((vars).map (IV.int .i64)))), (3, .v (.vslice none 0 (imms).length 1 ((imms).map (IV.int .i64)))), (5, .l 5 0), (10, .v (.ptr 1 0)), (21, .v (.vslice none 0 (l).length 3 ((l).flatMap cN))), (22, .v (.int .i64 l.length)), (23, .v (.int .i64 x.1)), (11, .v (.int .i64 x.1)), (12, .l 12 0)]) (fun x => [(5, [.int .i64 v, .int .i64 op, .int .i64 im, .int .i64 iv, .vslice none 0 ks.length 5 (cTs ks)]), (12, [.int .i64 x.2.2.1.op, .int .i64 x.2.2.1.im, .vslice (some x.2.2.2.1) x.2.2.2.2 x.2.2.1.ks.length 1 (x.2.2.1.ks.map (IV.int .i64))])]) (fun x => x.2.1) (fun x => l[x.1]? = some x.2.2.1 ∧ IZ x.2.1 1 0 vars imms (l.take x.1)) (fun x => l.length - x.1))
def it7 (v op im iv : Int) (ks : List T) (vars imms : List Int) (l : List Nd) : Inv' := .or
  (atX (Nat × Heap × Nd) (fun x => [(0, .v (.vslice none 0 (l).length 3 ((l).flatMap cN))), (2, .v (.vslice none 0 (vars).length 1 ((vars).map (IV.int .i64)))), (3, .v (.vslice none 0 (imms).length 1 ((imms).map (IV.int .i64)))), (5, .l 5 0), (10, .v (.ptr 1 0)), (21, .v (.vslice none 0 (l).length 3 ((l).flatMap cN))), (22, .v (.int .i64 l.length)), (23, .v (.int .i64 x.1)), (11, .v (.int .i64 x.1)), (12, .l 12 0)]) (fun x => [(5, [.int .i64 v, .int .i64 op, .int .i64 im, .int .i64 iv, .vslice none 0 ks.length 5 (cTs ks)]), (12, [.int .i64 x.2.2.op, .int .i64 x.2.2.im, .nilslice])]) (fun x => x.2.1) (fun x => (l[x.1]? = some x.2.2 ∧ x.2.2.ks = []) ∧ IP x.2.1 1 0 vars imms (l.take x.1) x.2.2) (fun x => l.length - x.1))
  (atX (Nat × Heap × Nd × Nat × Nat) (fun x => [(0, .v (.vslice none 0 (l).length 3 ((l).flatMap cN))), (2, .v (.vslice none 0 (vars).length 1 ((vars).map (IV.int .i64)))), (3, .v (.vslice none 0 (imms).length 1 ((imms).map (IV.int .i64)))), (5, .l 5 0), (10, .v (.ptr 1 0)), (21, .v (.vslice none 0 (l).length 3 ((l).flatMap cN))), (22, .v (.int .i64 l.length)), (23, .v (.int .i64 x.1)), (11, .v (.int .i64 x.1)), (12, .l 12 0)]) (fun x => [(5, [.int .i64 v, .int .i64 op, .int .i64 im, .int .i64 iv, .vslice none 0 ks.length 5 (cTs ks)]), (12, [.int .i64 x.2.2.1.op, .int .i64 x.2.2.1.im, .vslice (some x.2.2.2.1) x.2.2.2.2 x.2.2.1.ks.length 1 (x.2.2.1.ks.map (IV.int .i64))])]) (fun x => x.2.1) (fun x => l[x.1]? = some x.2.2.1 ∧ IP x.2.1 1 0 vars imms (l.take x.1) x.2.2.1) (fun x => l.length - x.1))
def kInsta (xs : List IV) (h : Heap) (K : IV → Heap → Prop) : Prop := match xs with
  | [.vslice none 0 n1 3 c1, .agg [.int .i64 v, .int .i64 op, .int .i64 im, .int .i64 iv, .vslice none 0 n2 5 c2], .vslice none 0 n3 1 c3, .vslice none 0 n4 1 c4] => ∃ (l : List Nd) (ks : List T) (vars imms : List Int), (n1 = l.length ∧ c1 = l.flatMap cN) ∧ (n2 = ks.length ∧ c2 = cTs ks) ∧ (n3 = vars.length ∧ c3 = vars.map (IV.int .i64)) ∧ (n4 = imms.length ∧ c4 = imms.map (IV.int .i64)) ∧
   ((l ≠ [] ∧ (∀ x ∈ l, okN x) ∧ l.length ≤ 1000000 ∧ ∀ x ∈ l, x.ks.length ≤ 1000000) ∧ ((T.mk v op im iv ks).ok ∧ (T.mk v op im iv ks).num ≤ 1000000) ∧ ((∀ x ∈ vars, i64b x) ∧ vars.length ≤ 1000) ∧ (∀ x ∈ imms, i64b x) ∧ imms.length ≤ 1000) ∧
   K (.tuple [.vslice none 0 ((instB l (T.mk v op im iv ks) vars imms).1).length 3 (((instB l (T.mk v op im iv ks) vars imms).1).flatMap cN), .int .i64 (instB l (T.mk v op im iv ks) vars imms).2]) h
  | _ => False
set_option maxRecDepth 100000 in
theorem vInsta (v op im iv : Int) (ks : List T) (vars imms : List Int) (l : List Nd) (h : Heap) (Q : IV → Heap → Prop) : dF (stdS cInst) env 22 noU (ic1 4 (itInv v op im iv ks vars imms l)) (icA 1000007 (it6 v op im iv ks vars imms l) (ic1 1000008 (it7 v op im iv ks vars imms l))) [.vslice none 0 (l).length 3 ((l).flatMap cN), .agg [.int .i64 v, .int .i64 op, .int .i64 im, .int .i64 iv, .vslice none 0 ks.length 5 (cTs ks)], .vslice none 0 (vars).length 1 ((vars).map (IV.int .i64)), .vslice none 0 (imms).length 1 ((imms).map (IV.int .i64))] h Q = (
  needS
 (pureL
 [IV.vslice none (0 : Nat) (List.length l) (3 : Nat) (List.flatMap cN l), IV.agg [IV.int IntKind.i64 v, IV.int IntKind.i64 op, IV.int IntKind.i64 im, IV.int IntKind.i64 iv, IV.vslice none (0 : Nat) (List.length ks) (5 : Nat) (cTs ks)],
 IV.vslice none (0 : Nat) (List.length vars) (1 : Nat) (List.map (IV.int IntKind.i64) vars), IV.vslice none (0 : Nat) (List.length imms) (1 : Nat) (List.map (IV.int IntKind.i64) imms)])
 ((∃ (x : Nat × Heap),
 some (TV.v (IV.vslice none (0 : Nat) (List.length l) (3 : Nat) (List.flatMap cN l))) = some (TV.v (IV.vslice none (0 : Nat) (List.length l) (3 : Nat) (List.flatMap cN l))) ∧
 some (TV.v (IV.vslice none (0 : Nat) (List.length vars) (1 : Nat) (List.map (IV.int IntKind.i64) vars))) = some (TV.v (IV.vslice none (0 : Nat) (List.length vars) (1 : Nat) (List.map (IV.int IntKind.i64) vars))) ∧
 some (TV.v (IV.vslice none (0 : Nat) (List.length imms) (1 : Nat) (List.map (IV.int IntKind.i64) imms))) = some (TV.v (IV.vslice none (0 : Nat) (List.length imms) (1 : Nat) (List.map (IV.int IntKind.i64) imms))) ∧
 some (TV.l (5 : Nat) (0 : Nat)) = some (TV.l (5 : Nat) (0 : Nat)) ∧
 some (TV.v (IV.ptr ((0 : Nat) + (1 : Nat)) (0 : Nat))) = some (TV.v (IV.ptr (1 : Nat) (0 : Nat))) ∧
 some (TV.v (IV.vslice none (0 : Nat) (List.length l) (3 : Nat) (List.flatMap cN l))) = some (TV.v (IV.vslice none (0 : Nat) (List.length l) (3 : Nat) (List.flatMap cN l))) ∧
 some (TV.v (IV.int IntKind.i64 (↑(List.length l) : Int))) = some (TV.v (IV.int IntKind.i64 (↑(List.length l) : Int))) ∧
 some (TV.v (IV.int IntKind.i64 (0 : Int))) = some (TV.v (IV.int IntKind.i64 (↑(Prod.fst x) : Int))) ∧
 some [IV.int IntKind.i64 v, IV.int IntKind.i64 op, IV.int IntKind.i64 im, IV.int IntKind.i64 iv, IV.vslice none (0 : Nat) (List.length ks) (5 : Nat) (cTs ks)] =
 some [IV.int IntKind.i64 v, IV.int IntKind.i64 op, IV.int IntKind.i64 im, IV.int IntKind.i64 iv, IV.vslice none (0 : Nat) (List.length ks) (5 : Nat) (cTs ks)] ∧
 Heap.mk
 (PT.node
 (PT.node PT.nil
 (some
 (IObj.cells
 [IV.nilslice, IV.map (0 : Nat), IV.vslice none (0 : Nat) (List.length vars) (1 : Nat) (List.map (IV.int IntKind.i64) vars),
 IV.vslice none (0 : Nat) (List.length imms) (1 : Nat) (List.map (IV.int IntKind.i64) imms)]))
 PT.nil)
 (some (IObj.map [])) PT.nil)
 ((0 : Nat) + (1 : Nat) + (1 : Nat)) =
 Prod.snd x ∧
 (Prod.fst x ≤ List.length l ∧ IZ (Prod.snd x) (1 : Nat) (0 : Nat) vars imms (List.take (Prod.fst x) l)) ∧ True) ∧
 ∀ (x : Nat × Heap) (b : FF),
 Prod.fst x ≤ List.length l ∧ IZ (Prod.snd x) (1 : Nat) (0 : Nat) vars imms (List.take (Prod.fst x) l) →
 brS (decide ((↑(Prod.fst x) : Int) < (↑(List.length l) : Int)))
 (needS (decide ((0 : Int) ≤ (↑(Prod.fst x) : Int)) && decide ((↑(Prod.fst x) : Int) < (↑(List.length l) : Int)))
 (ldIS IntKind.i64 (List.flatMap cN l) (Int.toNat (↑(Prod.fst x) : Int) * (3 : Nat)) fun (n0 : Int) =>
 ldIS IntKind.i64 (List.flatMap cN l) (Int.toNat (↑(Prod.fst x) : Int) * (3 : Nat) + (1 : Nat)) fun (n1 : Int) =>
 ldVS (1 : Nat) (List.flatMap cN l) (Int.toNat (↑(Prod.fst x) : Int) * (3 : Nat) + (1 : Nat) + (1 : Nat)) fun (i2 : Option Nat) (e3 l4 : Nat) (c5 : List IV) =>
 ∃ (M : Nat),
 brS (Nat.beq l4 (0 : Nat))
 ((∃ (x_1 : Nat × Heap × Nd),
 some (TV.v (IV.vslice none (0 : Nat) (List.length l) (3 : Nat) (List.flatMap cN l))) = some (TV.v (IV.vslice none (0 : Nat) (List.length l) (3 : Nat) (List.flatMap cN l))) ∧
 some (TV.v (IV.vslice none (0 : Nat) (List.length vars) (1 : Nat) (List.map (IV.int IntKind.i64) vars))) =
 some (TV.v (IV.vslice none (0 : Nat) (List.length vars) (1 : Nat) (List.map (IV.int IntKind.i64) vars))) ∧
 some (TV.v (IV.vslice none (0 : Nat) (List.length imms) (1 : Nat) (List.map (IV.int IntKind.i64) imms))) =
 some (TV.v (IV.vslice none (0 : Nat) (List.length imms) (1 : Nat) (List.map (IV.int IntKind.i64) imms))) ∧
 some (TV.l (5 : Nat) (0 : Nat)) = some (TV.l (5 : Nat) (0 : Nat)) ∧
 some (TV.v (IV.ptr (1 : Nat) (0 : Nat))) = some (TV.v (IV.ptr (1 : Nat) (0 : Nat))) ∧
 some (TV.v (IV.vslice none (0 : Nat) (List.length l) (3 : Nat) (List.flatMap cN l))) = some (TV.v (IV.vslice none (0 : Nat) (List.length l) (3 : Nat) (List.flatMap cN l))) ∧
 some (TV.v (IV.int IntKind.i64 (↑(List.length l) : Int))) = some (TV.v (IV.int IntKind.i64 (↑(List.length l) : Int))) ∧
 some (TV.v (IV.int IntKind.i64 (↑(Prod.fst x) : Int))) = some (TV.v (IV.int IntKind.i64 (↑(Prod.fst x_1) : Int))) ∧
 some (TV.v (IV.int IntKind.i64 (↑(Prod.fst x) : Int))) = some (TV.v (IV.int IntKind.i64 (↑(Prod.fst x_1) : Int))) ∧
 some (TV.l (12 : Nat) (0 : Nat)) = some (TV.l (12 : Nat) (0 : Nat)) ∧
 some [IV.int IntKind.i64 v, IV.int IntKind.i64 op, IV.int IntKind.i64 im, IV.int IntKind.i64 iv, IV.vslice none (0 : Nat) (List.length ks) (5 : Nat) (cTs ks)] =
 some [IV.int IntKind.i64 v, IV.int IntKind.i64 op, IV.int IntKind.i64 im, IV.int IntKind.i64 iv, IV.vslice none (0 : Nat) (List.length ks) (5 : Nat) (cTs ks)] ∧
 some [IV.int IntKind.i64 n0, IV.int IntKind.i64 n1, IV.nilslice] =
 some [IV.int IntKind.i64 (Nd.op (Prod.snd (Prod.snd x_1))), IV.int IntKind.i64 (Nd.im (Prod.snd (Prod.snd x_1))), IV.nilslice] ∧
 Prod.snd x = Prod.fst (Prod.snd x_1) ∧
 ((l[Prod.fst x_1]? = some (Prod.snd (Prod.snd x_1)) ∧ Nd.ks (Prod.snd (Prod.snd x_1)) = []) ∧ IZ (Prod.fst (Prod.snd x_1)) (1 : Nat) (0 : Nat) vars imms (List.take (Prod.fst x_1) l)) ∧
 List.length l - Prod.fst x_1 ≤ M) ∨
 ∃ (x_1 : Nat × Heap × Nd × Nat × Nat),
 some (TV.v (IV.vslice none (0 : Nat) (List.length l) (3 : Nat) (List.flatMap cN l))) = some (TV.v (IV.vslice none (0 : Nat) (List.length l) (3 : Nat) (List.flatMap cN l))) ∧
 some (TV.v (IV.vslice none (0 : Nat) (List.length vars) (1 : Nat) (List.map (IV.int IntKind.i64) vars))) =
 some (TV.v (IV.vslice none (0 : Nat) (List.length vars) (1 : Nat) (List.map (IV.int IntKind.i64) vars))) ∧
 some (TV.v (IV.vslice none (0 : Nat) (List.length imms) (1 : Nat) (List.map (IV.int IntKind.i64) imms))) =
 some (TV.v (IV.vslice none (0 : Nat) (List.length imms) (1 : Nat) (List.map (IV.int IntKind.i64) imms))) ∧
 some (TV.l (5 : Nat) (0 : Nat)) = some (TV.l (5 : Nat) (0 : Nat)) ∧
 some (TV.v (IV.ptr (1 : Nat) (0 : Nat))) = some (TV.v (IV.ptr (1 : Nat) (0 : Nat))) ∧
 some (TV.v (IV.vslice none (0 : Nat) (List.length l) (3 : Nat) (List.flatMap cN l))) = some (TV.v (IV.vslice none (0 : Nat) (List.length l) (3 : Nat) (List.flatMap cN l))) ∧
 some (TV.v (IV.int IntKind.i64 (↑(List.length l) : Int))) = some (TV.v (IV.int IntKind.i64 (↑(List.length l) : Int))) ∧
 some (TV.v (IV.int IntKind.i64 (↑(Prod.fst x) : Int))) = some (TV.v (IV.int IntKind.i64 (↑(Prod.fst x_1) : Int))) ∧
 some (TV.v (IV.int IntKind.i64 (↑(Prod.fst x) : Int))) = some (TV.v (IV.int IntKind.i64 (↑(Prod.fst x_1) : Int))) ∧
 some (TV.l (12 : Nat) (0 : Nat)) = some (TV.l (12 : Nat) (0 : Nat)) ∧
 some [IV.int IntKind.i64 v, IV.int IntKind.i64 op, IV.int IntKind.i64 im, IV.int IntKind.i64 iv, IV.vslice none (0 : Nat) (List.length ks) (5 : Nat) (cTs ks)] =
 some [IV.int IntKind.i64 v, IV.int IntKind.i64 op, IV.int IntKind.i64 im, IV.int IntKind.i64 iv, IV.vslice none (0 : Nat) (List.length ks) (5 : Nat) (cTs ks)] ∧
 some [IV.int IntKind.i64 n0, IV.int IntKind.i64 n1, IV.nilslice] =
 some
 [IV.int IntKind.i64 (Nd.op (Prod.fst (Prod.snd (Prod.snd x_1)))), IV.int IntKind.i64 (Nd.im (Prod.fst (Prod.snd (Prod.snd x_1)))),
 IV.vslice (some (Prod.fst (Prod.snd (Prod.snd (Prod.snd x_1))))) (Prod.snd (Prod.snd (Prod.snd (Prod.snd x_1)))) (List.length (Nd.ks (Prod.fst (Prod.snd (Prod.snd x_1))))) (1 : Nat)
 (List.map (IV.int IntKind.i64) (Nd.ks (Prod.fst (Prod.snd (Prod.snd x_1)))))] ∧
 Prod.snd x = Prod.fst (Prod.snd x_1) ∧
 (l[Prod.fst x_1]? = some (Prod.fst (Prod.snd (Prod.snd x_1))) ∧ IZ (Prod.fst (Prod.snd x_1)) (1 : Nat) (0 : Nat) vars imms (List.take (Prod.fst x_1) l)) ∧
 List.length l - Prod.fst x_1 ≤ M)
 (needS (Nat.ble (l4 * (8 : Nat)) (140737488355328 : Nat))
 ((∃ (x_1 : Nat × Heap × Nd),
 some (TV.v (IV.vslice none (0 : Nat) (List.length l) (3 : Nat) (List.flatMap cN l))) = some (TV.v (IV.vslice none (0 : Nat) (List.length l) (3 : Nat) (List.flatMap cN l))) ∧
 some (TV.v (IV.vslice none (0 : Nat) (List.length vars) (1 : Nat) (List.map (IV.int IntKind.i64) vars))) =
 some (TV.v (IV.vslice none (0 : Nat) (List.length vars) (1 : Nat) (List.map (IV.int IntKind.i64) vars))) ∧
 some (TV.v (IV.vslice none (0 : Nat) (List.length imms) (1 : Nat) (List.map (IV.int IntKind.i64) imms))) =
 some (TV.v (IV.vslice none (0 : Nat) (List.length imms) (1 : Nat) (List.map (IV.int IntKind.i64) imms))) ∧
 some (TV.l (5 : Nat) (0 : Nat)) = some (TV.l (5 : Nat) (0 : Nat)) ∧
 some (TV.v (IV.ptr (1 : Nat) (0 : Nat))) = some (TV.v (IV.ptr (1 : Nat) (0 : Nat))) ∧
 some (TV.v (IV.vslice none (0 : Nat) (List.length l) (3 : Nat) (List.flatMap cN l))) = some (TV.v (IV.vslice none (0 : Nat) (List.length l) (3 : Nat) (List.flatMap cN l))) ∧
 some (TV.v (IV.int IntKind.i64 (↑(List.length l) : Int))) = some (TV.v (IV.int IntKind.i64 (↑(List.length l) : Int))) ∧
 some (TV.v (IV.int IntKind.i64 (↑(Prod.fst x) : Int))) = some (TV.v (IV.int IntKind.i64 (↑(Prod.fst x_1) : Int))) ∧
 some (TV.v (IV.int IntKind.i64 (↑(Prod.fst x) : Int))) = some (TV.v (IV.int IntKind.i64 (↑(Prod.fst x_1) : Int))) ∧
 some (TV.l (12 : Nat) (0 : Nat)) = some (TV.l (12 : Nat) (0 : Nat)) ∧
 some [IV.int IntKind.i64 v, IV.int IntKind.i64 op, IV.int IntKind.i64 im, IV.int IntKind.i64 iv, IV.vslice none (0 : Nat) (List.length ks) (5 : Nat) (cTs ks)] =
 some [IV.int IntKind.i64 v, IV.int IntKind.i64 op, IV.int IntKind.i64 im, IV.int IntKind.i64 iv, IV.vslice none (0 : Nat) (List.length ks) (5 : Nat) (cTs ks)] ∧
 some [IV.int IntKind.i64 n0, IV.int IntKind.i64 n1, IV.vslice (some (Heap.next (Prod.snd x))) (l4 * (1 : Nat)) l4 (1 : Nat) c5] =
 some [IV.int IntKind.i64 (Nd.op (Prod.snd (Prod.snd x_1))), IV.int IntKind.i64 (Nd.im (Prod.snd (Prod.snd x_1))), IV.nilslice] ∧
 Heap.push (Prod.snd x) (IObj.tip (l4 * (1 : Nat))) = Prod.fst (Prod.snd x_1) ∧
 ((l[Prod.fst x_1]? = some (Prod.snd (Prod.snd x_1)) ∧ Nd.ks (Prod.snd (Prod.snd x_1)) = []) ∧ IZ (Prod.fst (Prod.snd x_1)) (1 : Nat) (0 : Nat) vars imms (List.take (Prod.fst x_1) l)) ∧
 List.length l - Prod.fst x_1 ≤ M) ∨
 ∃ (x_1 : Nat × Heap × Nd × Nat × Nat),
 some (TV.v (IV.vslice none (0 : Nat) (List.length l) (3 : Nat) (List.flatMap cN l))) = some (TV.v (IV.vslice none (0 : Nat) (List.length l) (3 : Nat) (List.flatMap cN l))) ∧
 some (TV.v (IV.vslice none (0 : Nat) (List.length vars) (1 : Nat) (List.map (IV.int IntKind.i64) vars))) =
 some (TV.v (IV.vslice none (0 : Nat) (List.length vars) (1 : Nat) (List.map (IV.int IntKind.i64) vars))) ∧
 some (TV.v (IV.vslice none (0 : Nat) (List.length imms) (1 : Nat) (List.map (IV.int IntKind.i64) imms))) =
 some (TV.v (IV.vslice none (0 : Nat) (List.length imms) (1 : Nat) (List.map (IV.int IntKind.i64) imms))) ∧
 some (TV.l (5 : Nat) (0 : Nat)) = some (TV.l (5 : Nat) (0 : Nat)) ∧
 some (TV.v (IV.ptr (1 : Nat) (0 : Nat))) = some (TV.v (IV.ptr (1 : Nat) (0 : Nat))) ∧
 some (TV.v (IV.vslice none (0 : Nat) (List.length l) (3 : Nat) (List.flatMap cN l))) = some (TV.v (IV.vslice none (0 : Nat) (List.length l) (3 : Nat) (List.flatMap cN l))) ∧
 some (TV.v (IV.int IntKind.i64 (↑(List.length l) : Int))) = some (TV.v (IV.int IntKind.i64 (↑(List.length l) : Int))) ∧
 some (TV.v (IV.int IntKind.i64 (↑(Prod.fst x) : Int))) = some (TV.v (IV.int IntKind.i64 (↑(Prod.fst x_1) : Int))) ∧
 some (TV.v (IV.int IntKind.i64 (↑(Prod.fst x) : Int))) = some (TV.v (IV.int IntKind.i64 (↑(Prod.fst x_1) : Int))) ∧
 some (TV.l (12 : Nat) (0 : Nat)) = some (TV.l (12 : Nat) (0 : Nat)) ∧
 some [IV.int IntKind.i64 v, IV.int IntKind.i64 op, IV.int IntKind.i64 im, IV.int IntKind.i64 iv, IV.vslice none (0 : Nat) (List.length ks) (5 : Nat) (cTs ks)] =
 some [IV.int IntKind.i64 v, IV.int IntKind.i64 op, IV.int IntKind.i64 im, IV.int IntKind.i64 iv, IV.vslice none (0 : Nat) (List.length ks) (5 : Nat) (cTs ks)] ∧
 some [IV.int IntKind.i64 n0, IV.int IntKind.i64 n1, IV.vslice (some (Heap.next (Prod.snd x))) (l4 * (1 : Nat)) l4 (1 : Nat) c5] =
 some
 [IV.int IntKind.i64 (Nd.op (Prod.fst (Prod.snd (Prod.snd x_1)))), IV.int IntKind.i64 (Nd.im (Prod.fst (Prod.snd (Prod.snd x_1)))),
 IV.vslice (some (Prod.fst (Prod.snd (Prod.snd (Prod.snd x_1))))) (Prod.snd (Prod.snd (Prod.snd (Prod.snd x_1)))) (List.length (Nd.ks (Prod.fst (Prod.snd (Prod.snd x_1)))))
 (1 : Nat) (List.map (IV.int IntKind.i64) (Nd.ks (Prod.fst (Prod.snd (Prod.snd x_1)))))] ∧
 Heap.push (Prod.snd x) (IObj.tip (l4 * (1 : Nat))) = Prod.fst (Prod.snd x_1) ∧
 (l[Prod.fst x_1]? = some (Prod.fst (Prod.snd (Prod.snd x_1))) ∧ IZ (Prod.fst (Prod.snd x_1)) (1 : Nat) (0 : Nat) vars imms (List.take (Prod.fst x_1) l)) ∧
 List.length l - Prod.fst x_1 ≤ M)) ∧
 (∀ (x_1 : Nat × Heap × Nd) (b : FF),
 (l[Prod.fst x_1]? = some (Prod.snd (Prod.snd x_1)) ∧ Nd.ks (Prod.snd (Prod.snd x_1)) = []) ∧ IZ (Prod.fst (Prod.snd x_1)) (1 : Nat) (0 : Nat) vars imms (List.take (Prod.fst x_1) l) →
 List.length l - Prod.fst x_1 ≤ M →
 ∃ (M : Nat),
 (hgetS (Prod.fst (Prod.snd x_1)) (1 : Nat) fun (r6 : List IV) =>
 ldNVS (3 : Nat) r6 (0 : Nat)
 (hgetS (Heap.push (Prod.fst (Prod.snd x_1)) (IObj.tip (3 : Nat))) (1 : Nat) fun (r7 : List IV) =>
 needS (Nat.ble (1 : Nat) (List.length r7))
 ((∃ (x : Nat × Heap × Nd),
 some (TV.v (IV.vslice none (0 : Nat) (List.length l) (3 : Nat) (List.flatMap cN l))) = some (TV.v (IV.vslice none (0 : Nat) (List.length l) (3 : Nat) (List.flatMap cN l))) ∧
 some (TV.v (IV.vslice none (0 : Nat) (List.length vars) (1 : Nat) (List.map (IV.int IntKind.i64) vars))) =
 some (TV.v (IV.vslice none (0 : Nat) (List.length vars) (1 : Nat) (List.map (IV.int IntKind.i64) vars))) ∧
 some (TV.v (IV.vslice none (0 : Nat) (List.length imms) (1 : Nat) (List.map (IV.int IntKind.i64) imms))) =
 some (TV.v (IV.vslice none (0 : Nat) (List.length imms) (1 : Nat) (List.map (IV.int IntKind.i64) imms))) ∧
 some (TV.l (5 : Nat) (0 : Nat)) = some (TV.l (5 : Nat) (0 : Nat)) ∧
 some (TV.v (IV.ptr (1 : Nat) (0 : Nat))) = some (TV.v (IV.ptr (1 : Nat) (0 : Nat))) ∧
 some (TV.v (IV.vslice none (0 : Nat) (List.length l) (3 : Nat) (List.flatMap cN l))) = some (TV.v (IV.vslice none (0 : Nat) (List.length l) (3 : Nat) (List.flatMap cN l))) ∧
 some (TV.v (IV.int IntKind.i64 (↑(List.length l) : Int))) = some (TV.v (IV.int IntKind.i64 (↑(List.length l) : Int))) ∧
 some (TV.v (IV.int IntKind.i64 (↑(Prod.fst x_1) : Int))) = some (TV.v (IV.int IntKind.i64 (↑(Prod.fst x) : Int))) ∧
 some (TV.v (IV.int IntKind.i64 (↑(Prod.fst x_1) : Int))) = some (TV.v (IV.int IntKind.i64 (↑(Prod.fst x) : Int))) ∧
 some (TV.l (12 : Nat) (0 : Nat)) = some (TV.l (12 : Nat) (0 : Nat)) ∧
 some [IV.int IntKind.i64 v, IV.int IntKind.i64 op, IV.int IntKind.i64 im, IV.int IntKind.i64 iv, IV.vslice none (0 : Nat) (List.length ks) (5 : Nat) (cTs ks)] =
 some [IV.int IntKind.i64 v, IV.int IntKind.i64 op, IV.int IntKind.i64 im, IV.int IntKind.i64 iv, IV.vslice none (0 : Nat) (List.length ks) (5 : Nat) (cTs ks)] ∧
 some [IV.int IntKind.i64 (Nd.op (Prod.snd (Prod.snd x_1))), IV.int IntKind.i64 (Nd.im (Prod.snd (Prod.snd x_1))), IV.nilslice] =
 some [IV.int IntKind.i64 (Nd.op (Prod.snd (Prod.snd x))), IV.int IntKind.i64 (Nd.im (Prod.snd (Prod.snd x))), IV.nilslice] ∧
 Heap.set (Heap.push (Prod.fst (Prod.snd x_1)) (IObj.tip (3 : Nat))) (1 : Nat)
 (IObj.cells
 (IV.vslice (some (Heap.next (Prod.fst (Prod.snd x_1)))) (3 : Nat) (1 : Nat) (3 : Nat)
 [IV.int IntKind.i64 (Nd.op (Prod.snd (Prod.snd x_1))), IV.int IntKind.i64 (Nd.im (Prod.snd (Prod.snd x_1))),
 IV.vslice none (0 : Nat) (0 : Nat) (1 : Nat) []] ::
 List.drop (1 : Nat) r7)) =
 Prod.fst (Prod.snd x) ∧
 ((l[Prod.fst x]? = some (Prod.snd (Prod.snd x)) ∧ Nd.ks (Prod.snd (Prod.snd x)) = []) ∧
 IP (Prod.fst (Prod.snd x)) (1 : Nat) (0 : Nat) vars imms (List.take (Prod.fst x) l) (Prod.snd (Prod.snd x))) ∧
 List.length l - Prod.fst x ≤ M) ∨
 ∃ (x : Nat × Heap × Nd × Nat × Nat),
 some (TV.v (IV.vslice none (0 : Nat) (List.length l) (3 : Nat) (List.flatMap cN l))) = some (TV.v (IV.vslice none (0 : Nat) (List.length l) (3 : Nat) (List.flatMap cN l))) ∧
 some (TV.v (IV.vslice none (0 : Nat) (List.length vars) (1 : Nat) (List.map (IV.int IntKind.i64) vars))) =
 some (TV.v (IV.vslice none (0 : Nat) (List.length vars) (1 : Nat) (List.map (IV.int IntKind.i64) vars))) ∧
 some (TV.v (IV.vslice none (0 : Nat) (List.length imms) (1 : Nat) (List.map (IV.int IntKind.i64) imms))) =
 some (TV.v (IV.vslice none (0 : Nat) (List.length imms) (1 : Nat) (List.map (IV.int IntKind.i64) imms))) ∧
 some (TV.l (5 : Nat) (0 : Nat)) = some (TV.l (5 : Nat) (0 : Nat)) ∧
 some (TV.v (IV.ptr (1 : Nat) (0 : Nat))) = some (TV.v (IV.ptr (1 : Nat) (0 : Nat))) ∧
 some (TV.v (IV.vslice none (0 : Nat) (List.length l) (3 : Nat) (List.flatMap cN l))) = some (TV.v (IV.vslice none (0 : Nat) (List.length l) (3 : Nat) (List.flatMap cN l))) ∧
 some (TV.v (IV.int IntKind.i64 (↑(List.length l) : Int))) = some (TV.v (IV.int IntKind.i64 (↑(List.length l) : Int))) ∧
 some (TV.v (IV.int IntKind.i64 (↑(Prod.fst x_1) : Int))) = some (TV.v (IV.int IntKind.i64 (↑(Prod.fst x) : Int))) ∧
 some (TV.v (IV.int IntKind.i64 (↑(Prod.fst x_1) : Int))) = some (TV.v (IV.int IntKind.i64 (↑(Prod.fst x) : Int))) ∧
 some (TV.l (12 : Nat) (0 : Nat)) = some (TV.l (12 : Nat) (0 : Nat)) ∧
 some [IV.int IntKind.i64 v, IV.int IntKind.i64 op, IV.int IntKind.i64 im, IV.int IntKind.i64 iv, IV.vslice none (0 : Nat) (List.length ks) (5 : Nat) (cTs ks)] =
 some [IV.int IntKind.i64 v, IV.int IntKind.i64 op, IV.int IntKind.i64 im, IV.int IntKind.i64 iv, IV.vslice none (0 : Nat) (List.length ks) (5 : Nat) (cTs ks)] ∧
 some [IV.int IntKind.i64 (Nd.op (Prod.snd (Prod.snd x_1))), IV.int IntKind.i64 (Nd.im (Prod.snd (Prod.snd x_1))), IV.nilslice] =
 some
 [IV.int IntKind.i64 (Nd.op (Prod.fst (Prod.snd (Prod.snd x)))), IV.int IntKind.i64 (Nd.im (Prod.fst (Prod.snd (Prod.snd x)))),
 IV.vslice (some (Prod.fst (Prod.snd (Prod.snd (Prod.snd x))))) (Prod.snd (Prod.snd (Prod.snd (Prod.snd x))))
 (List.length (Nd.ks (Prod.fst (Prod.snd (Prod.snd x))))) (1 : Nat) (List.map (IV.int IntKind.i64) (Nd.ks (Prod.fst (Prod.snd (Prod.snd x)))))] ∧
 Heap.set (Heap.push (Prod.fst (Prod.snd x_1)) (IObj.tip (3 : Nat))) (1 : Nat)
 (IObj.cells
 (IV.vslice (some (Heap.next (Prod.fst (Prod.snd x_1)))) (3 : Nat) (1 : Nat) (3 : Nat)
 [IV.int IntKind.i64 (Nd.op (Prod.snd (Prod.snd x_1))), IV.int IntKind.i64 (Nd.im (Prod.snd (Prod.snd x_1))),
 IV.vslice none (0 : Nat) (0 : Nat) (1 : Nat) []] ::
 List.drop (1 : Nat) r7)) =
 Prod.fst (Prod.snd x) ∧
 (l[Prod.fst x]? = some (Prod.fst (Prod.snd (Prod.snd x))) ∧
 IP (Prod.fst (Prod.snd x)) (1 : Nat) (0 : Nat) vars imms (List.take (Prod.fst x) l) (Prod.fst (Prod.snd (Prod.snd x)))) ∧
 List.length l - Prod.fst x ≤ M))
 fun (i8 e9 l10 : Nat) (c11 : List IV) =>
 tipS (Prod.fst (Prod.snd x_1)) i8 fun (m12 : Nat) =>
 needS (Nat.beq m12 e9 && Nat.ble ((l10 + (1 : Nat)) * (40 : Nat)) (140737488355328 : Nat))
 (hgetS (Heap.set (Prod.fst (Prod.snd x_1)) i8 (IObj.tip (e9 + (3 : Nat)))) (1 : Nat) fun (r13 : List IV) =>
 needS (Nat.ble (1 : Nat) (List.length r13))
 ((∃ (x : Nat × Heap × Nd),
 some (TV.v (IV.vslice none (0 : Nat) (List.length l) (3 : Nat) (List.flatMap cN l))) = some (TV.v (IV.vslice none (0 : Nat) (List.length l) (3 : Nat) (List.flatMap cN l))) ∧
 some (TV.v (IV.vslice none (0 : Nat) (List.length vars) (1 : Nat) (List.map (IV.int IntKind.i64) vars))) =
 some (TV.v (IV.vslice none (0 : Nat) (List.length vars) (1 : Nat) (List.map (IV.int IntKind.i64) vars))) ∧
 some (TV.v (IV.vslice none (0 : Nat) (List.length imms) (1 : Nat) (List.map (IV.int IntKind.i64) imms))) =
 some (TV.v (IV.vslice none (0 : Nat) (List.length imms) (1 : Nat) (List.map (IV.int IntKind.i64) imms))) ∧
 some (TV.l (5 : Nat) (0 : Nat)) = some (TV.l (5 : Nat) (0 : Nat)) ∧
 some (TV.v (IV.ptr (1 : Nat) (0 : Nat))) = some (TV.v (IV.ptr (1 : Nat) (0 : Nat))) ∧
 some (TV.v (IV.vslice none (0 : Nat) (List.length l) (3 : Nat) (List.flatMap cN l))) = some (TV.v (IV.vslice none (0 : Nat) (List.length l) (3 : Nat) (List.flatMap cN l))) ∧
 some (TV.v (IV.int IntKind.i64 (↑(List.length l) : Int))) = some (TV.v (IV.int IntKind.i64 (↑(List.length l) : Int))) ∧
 some (TV.v (IV.int IntKind.i64 (↑(Prod.fst x_1) : Int))) = some (TV.v (IV.int IntKind.i64 (↑(Prod.fst x) : Int))) ∧
 some (TV.v (IV.int IntKind.i64 (↑(Prod.fst x_1) : Int))) = some (TV.v (IV.int IntKind.i64 (↑(Prod.fst x) : Int))) ∧
 some (TV.l (12 : Nat) (0 : Nat)) = some (TV.l (12 : Nat) (0 : Nat)) ∧
 some [IV.int IntKind.i64 v, IV.int IntKind.i64 op, IV.int IntKind.i64 im, IV.int IntKind.i64 iv, IV.vslice none (0 : Nat) (List.length ks) (5 : Nat) (cTs ks)] =
 some [IV.int IntKind.i64 v, IV.int IntKind.i64 op, IV.int IntKind.i64 im, IV.int IntKind.i64 iv, IV.vslice none (0 : Nat) (List.length ks) (5 : Nat) (cTs ks)] ∧
 some [IV.int IntKind.i64 (Nd.op (Prod.snd (Prod.snd x_1))), IV.int IntKind.i64 (Nd.im (Prod.snd (Prod.snd x_1))), IV.nilslice] =
 some [IV.int IntKind.i64 (Nd.op (Prod.snd (Prod.snd x))), IV.int IntKind.i64 (Nd.im (Prod.snd (Prod.snd x))), IV.nilslice] ∧
 Heap.set (Heap.set (Prod.fst (Prod.snd x_1)) i8 (IObj.tip (e9 + (3 : Nat)))) (1 : Nat)
 (IObj.cells
 (IV.vslice (some i8) (e9 + (3 : Nat)) (l10 + (1 : Nat)) (3 : Nat)
 (c11 ++
 [IV.int IntKind.i64 (Nd.op (Prod.snd (Prod.snd x_1))), IV.int IntKind.i64 (Nd.im (Prod.snd (Prod.snd x_1))),
 IV.vslice none (0 : Nat) (0 : Nat) (1 : Nat) []]) ::
 List.drop (1 : Nat) r13)) =
 Prod.fst (Prod.snd x) ∧
 ((l[Prod.fst x]? = some (Prod.snd (Prod.snd x)) ∧ Nd.ks (Prod.snd (Prod.snd x)) = []) ∧
 IP (Prod.fst (Prod.snd x)) (1 : Nat) (0 : Nat) vars imms (List.take (Prod.fst x) l) (Prod.snd (Prod.snd x))) ∧
 List.length l - Prod.fst x ≤ M) ∨
 ∃ (x : Nat × Heap × Nd × Nat × Nat),
 some (TV.v (IV.vslice none (0 : Nat) (List.length l) (3 : Nat) (List.flatMap cN l))) = some (TV.v (IV.vslice none (0 : Nat) (List.length l) (3 : Nat) (List.flatMap cN l))) ∧
 some (TV.v (IV.vslice none (0 : Nat) (List.length vars) (1 : Nat) (List.map (IV.int IntKind.i64) vars))) =
 some (TV.v (IV.vslice none (0 : Nat) (List.length vars) (1 : Nat) (List.map (IV.int IntKind.i64) vars))) ∧
 some (TV.v (IV.vslice none (0 : Nat) (List.length imms) (1 : Nat) (List.map (IV.int IntKind.i64) imms))) =
 some (TV.v (IV.vslice none (0 : Nat) (List.length imms) (1 : Nat) (List.map (IV.int IntKind.i64) imms))) ∧
 some (TV.l (5 : Nat) (0 : Nat)) = some (TV.l (5 : Nat) (0 : Nat)) ∧
 some (TV.v (IV.ptr (1 : Nat) (0 : Nat))) = some (TV.v (IV.ptr (1 : Nat) (0 : Nat))) ∧
 some (TV.v (IV.vslice none (0 : Nat) (List.length l) (3 : Nat) (List.flatMap cN l))) = some (TV.v (IV.vslice none (0 : Nat) (List.length l) (3 : Nat) (List.flatMap cN l))) ∧
 some (TV.v (IV.int IntKind.i64 (↑(List.length l) : Int))) = some (TV.v (IV.int IntKind.i64 (↑(List.length l) : Int))) ∧
 some (TV.v (IV.int IntKind.i64 (↑(Prod.fst x_1) : Int))) = some (TV.v (IV.int IntKind.i64 (↑(Prod.fst x) : Int))) ∧
 some (TV.v (IV.int IntKind.i64 (↑(Prod.fst x_1) : Int))) = some (TV.v (IV.int IntKind.i64 (↑(Prod.fst x) : Int))) ∧
 some (TV.l (12 : Nat) (0 : Nat)) = some (TV.l (12 : Nat) (0 : Nat)) ∧
 some [IV.int IntKind.i64 v, IV.int IntKind.i64 op, IV.int IntKind.i64 im, IV.int IntKind.i64 iv, IV.vslice none (0 : Nat) (List.length ks) (5 : Nat) (cTs ks)] =
 some [IV.int IntKind.i64 v, IV.int IntKind.i64 op, IV.int IntKind.i64 im, IV.int IntKind.i64 iv, IV.vslice none (0 : Nat) (List.length ks) (5 : Nat) (cTs ks)] ∧
 some [IV.int IntKind.i64 (Nd.op (Prod.snd (Prod.snd x_1))), IV.int IntKind.i64 (Nd.im (Prod.snd (Prod.snd x_1))), IV.nilslice] =
 some
 [IV.int IntKind.i64 (Nd.op (Prod.fst (Prod.snd (Prod.snd x)))), IV.int IntKind.i64 (Nd.im (Prod.fst (Prod.snd (Prod.snd x)))),
 IV.vslice (some (Prod.fst (Prod.snd (Prod.snd (Prod.snd x))))) (Prod.snd (Prod.snd (Prod.snd (Prod.snd x))))
 (List.length (Nd.ks (Prod.fst (Prod.snd (Prod.snd x))))) (1 : Nat) (List.map (IV.int IntKind.i64) (Nd.ks (Prod.fst (Prod.snd (Prod.snd x)))))] ∧
 Heap.set (Heap.set (Prod.fst (Prod.snd x_1)) i8 (IObj.tip (e9 + (3 : Nat)))) (1 : Nat)
 (IObj.cells
 (IV.vslice (some i8) (e9 + (3 : Nat)) (l10 + (1 : Nat)) (3 : Nat)
 (c11 ++
 [IV.int IntKind.i64 (Nd.op (Prod.snd (Prod.snd x_1))), IV.int IntKind.i64 (Nd.im (Prod.snd (Prod.snd x_1))),
 IV.vslice none (0 : Nat) (0 : Nat) (1 : Nat) []]) ::
 List.drop (1 : Nat) r13)) =
 Prod.fst (Prod.snd x) ∧
 (l[Prod.fst x]? = some (Prod.fst (Prod.snd (Prod.snd x))) ∧
 IP (Prod.fst (Prod.snd x)) (1 : Nat) (0 : Nat) vars imms (List.take (Prod.fst x) l) (Prod.fst (Prod.snd (Prod.snd x)))) ∧
 List.length l - Prod.fst x ≤ M))) ∧
 (∀ (x_2 : Nat × Heap × Nd) (b : FF),
 (l[Prod.fst x_2]? = some (Prod.snd (Prod.snd x_2)) ∧ Nd.ks (Prod.snd (Prod.snd x_2)) = []) ∧
 IP (Prod.fst (Prod.snd x_2)) (1 : Nat) (0 : Nat) vars imms (List.take (Prod.fst x_2) l) (Prod.snd (Prod.snd x_2)) →
 List.length l - Prod.fst x_2 ≤ M →
 hgetS (Prod.fst (Prod.snd x_2)) (1 : Nat) fun (r14 : List IV) =>
 ldMS r14 (1 : Nat) fun (i15 : Nat) =>
 ∃ (ks_1 : List Int),
 ((0 : Nat) = List.length ks_1 ∧ [] = List.map (IV.int IntKind.i64) ks_1) ∧
 List.length ks_1 ≤ (1000000000 : Nat) ∧
 ∀ (s : List UInt8),
 isKy (Nd.mk (Nd.op (Prod.snd (Prod.snd x_2))) (Nd.im (Prod.snd (Prod.snd x_2))) ks_1) s →
 mlookS (Prod.fst (Prod.snd x_2)) i15 TypeDesc.string (IV.str s)
 (fun (r16 : List IV) =>
 ldIS IntKind.i64 r16 (0 : Nat) fun (n17 : Int) =>
 ∃ (x_3 : Nat × Heap),
 some (TV.v (IV.vslice none (0 : Nat) (List.length l) (3 : Nat) (List.flatMap cN l))) = some (TV.v (IV.vslice none (0 : Nat) (List.length l) (3 : Nat) (List.flatMap cN l))) ∧
 some (TV.v (IV.vslice none (0 : Nat) (List.length vars) (1 : Nat) (List.map (IV.int IntKind.i64) vars))) =
 some (TV.v (IV.vslice none (0 : Nat) (List.length vars) (1 : Nat) (List.map (IV.int IntKind.i64) vars))) ∧
 some (TV.v (IV.vslice none (0 : Nat) (List.length imms) (1 : Nat) (List.map (IV.int IntKind.i64) imms))) =
 some (TV.v (IV.vslice none (0 : Nat) (List.length imms) (1 : Nat) (List.map (IV.int IntKind.i64) imms))) ∧
 some (TV.l (5 : Nat) (0 : Nat)) = some (TV.l (5 : Nat) (0 : Nat)) ∧
 some (TV.v (IV.ptr (1 : Nat) (0 : Nat))) = some (TV.v (IV.ptr (1 : Nat) (0 : Nat))) ∧
 some (TV.v (IV.vslice none (0 : Nat) (List.length l) (3 : Nat) (List.flatMap cN l))) =
 some (TV.v (IV.vslice none (0 : Nat) (List.length l) (3 : Nat) (List.flatMap cN l))) ∧
 some (TV.v (IV.int IntKind.i64 (↑(List.length l) : Int))) = some (TV.v (IV.int IntKind.i64 (↑(List.length l) : Int))) ∧
 some (TV.v (IV.int IntKind.i64 (IntKind.wrap IntKind.i64 ((↑(Prod.fst x_2) : Int) + (1 : Int))))) = some (TV.v (IV.int IntKind.i64 (↑(Prod.fst x_3) : Int))) ∧
 some [IV.int IntKind.i64 v, IV.int IntKind.i64 op, IV.int IntKind.i64 im, IV.int IntKind.i64 iv, IV.vslice none (0 : Nat) (List.length ks) (5 : Nat) (cTs ks)] =
 some
 [IV.int IntKind.i64 v, IV.int IntKind.i64 op, IV.int IntKind.i64 im, IV.int IntKind.i64 iv,
 IV.vslice none (0 : Nat) (List.length ks) (5 : Nat) (cTs ks)] ∧
 Prod.fst (Prod.snd x_2) = Prod.snd x_3 ∧
 (Prod.fst x_3 ≤ List.length l ∧ IZ (Prod.snd x_3) (1 : Nat) (0 : Nat) vars imms (List.take (Prod.fst x_3) l)) ∧
 List.length l - Prod.fst x_3 < List.length l - Prod.fst x)
 (hgetS (Prod.fst (Prod.snd x_2)) (1 : Nat) fun (r18 : List IV) =>
 ldMS r18 (1 : Nat) fun (i19 : Nat) =>
 ∃ (ks_2 : List Int),
 ((0 : Nat) = List.length ks_2 ∧ [] = List.map (IV.int IntKind.i64) ks_2) ∧
 List.length ks_2 ≤ (1000000000 : Nat) ∧
 ∀ (s : List UInt8),
 isKy (Nd.mk (Nd.op (Prod.snd (Prod.snd x_2))) (Nd.im (Prod.snd (Prod.snd x_2))) ks_2) s →
 mupdS (Prod.fst (Prod.snd x_2)) i19 TypeDesc.string (IV.str s) (IV.int IntKind.i64 (↑(Prod.fst x_2) : Int)) fun (es20 : List (IV × IV)) =>
 ∃ (x_3 : Nat × Heap),
 some (TV.v (IV.vslice none (0 : Nat) (List.length l) (3 : Nat) (List.flatMap cN l))) =
 some (TV.v (IV.vslice none (0 : Nat) (List.length l) (3 : Nat) (List.flatMap cN l))) ∧
 some (TV.v (IV.vslice none (0 : Nat) (List.length vars) (1 : Nat) (List.map (IV.int IntKind.i64) vars))) =
 some (TV.v (IV.vslice none (0 : Nat) (List.length vars) (1 : Nat) (List.map (IV.int IntKind.i64) vars))) ∧
 some (TV.v (IV.vslice none (0 : Nat) (List.length imms) (1 : Nat) (List.map (IV.int IntKind.i64) imms))) =
 some (TV.v (IV.vslice none (0 : Nat) (List.length imms) (1 : Nat) (List.map (IV.int IntKind.i64) imms))) ∧
 some (TV.l (5 : Nat) (0 : Nat)) = some (TV.l (5 : Nat) (0 : Nat)) ∧
 some (TV.v (IV.ptr (1 : Nat) (0 : Nat))) = some (TV.v (IV.ptr (1 : Nat) (0 : Nat))) ∧
 some (TV.v (IV.vslice none (0 : Nat) (List.length l) (3 : Nat) (List.flatMap cN l))) =
 some (TV.v (IV.vslice none (0 : Nat) (List.length l) (3 : Nat) (List.flatMap cN l))) ∧
 some (TV.v (IV.int IntKind.i64 (↑(List.length l) : Int))) = some (TV.v (IV.int IntKind.i64 (↑(List.length l) : Int))) ∧
 some (TV.v (IV.int IntKind.i64 (IntKind.wrap IntKind.i64 ((↑(Prod.fst x_2) : Int) + (1 : Int))))) =
 some (TV.v (IV.int IntKind.i64 (↑(Prod.fst x_3) : Int))) ∧
 some
 [IV.int IntKind.i64 v, IV.int IntKind.i64 op, IV.int IntKind.i64 im, IV.int IntKind.i64 iv,
 IV.vslice none (0 : Nat) (List.length ks) (5 : Nat) (cTs ks)] =
 some
 [IV.int IntKind.i64 v, IV.int IntKind.i64 op, IV.int IntKind.i64 im, IV.int IntKind.i64 iv,
 IV.vslice none (0 : Nat) (List.length ks) (5 : Nat) (cTs ks)] ∧
 Heap.set (Prod.fst (Prod.snd x_2)) i19 (IObj.map es20) = Prod.snd x_3 ∧
 (Prod.fst x_3 ≤ List.length l ∧ IZ (Prod.snd x_3) (1 : Nat) (0 : Nat) vars imms (List.take (Prod.fst x_3) l)) ∧
 List.length l - Prod.fst x_3 < List.length l - Prod.fst x)) ∧
 ∀ (x_2 : Nat × Heap × Nd × Nat × Nat) (b : FF),
 l[Prod.fst x_2]? = some (Prod.fst (Prod.snd (Prod.snd x_2))) ∧ IP (Prod.fst (Prod.snd x_2)) (1 : Nat) (0 : Nat) vars imms (List.take (Prod.fst x_2) l) (Prod.fst (Prod.snd (Prod.snd x_2))) →
 List.length l - Prod.fst x_2 ≤ M →
 hgetS (Prod.fst (Prod.snd x_2)) (1 : Nat) fun (r21 : List IV) =>
 ldMS r21 (1 : Nat) fun (i22 : Nat) =>
 ∃ (ks_1 : List Int),
 (List.length (Nd.ks (Prod.fst (Prod.snd (Prod.snd x_2)))) = List.length ks_1 ∧
 List.map (IV.int IntKind.i64) (Nd.ks (Prod.fst (Prod.snd (Prod.snd x_2)))) = List.map (IV.int IntKind.i64) ks_1) ∧
 List.length ks_1 ≤ (1000000000 : Nat) ∧
 ∀ (s : List UInt8),
 isKy (Nd.mk (Nd.op (Prod.fst (Prod.snd (Prod.snd x_2)))) (Nd.im (Prod.fst (Prod.snd (Prod.snd x_2)))) ks_1) s →
 mlookS (Prod.fst (Prod.snd x_2)) i22 TypeDesc.string (IV.str s)
 (fun (r23 : List IV) =>
 ldIS IntKind.i64 r23 (0 : Nat) fun (n24 : Int) =>
 ∃ (x_3 : Nat × Heap),
 some (TV.v (IV.vslice none (0 : Nat) (List.length l) (3 : Nat) (List.flatMap cN l))) = some (TV.v (IV.vslice none (0 : Nat) (List.length l) (3 : Nat) (List.flatMap cN l))) ∧
 some (TV.v (IV.vslice none (0 : Nat) (List.length vars) (1 : Nat) (List.map (IV.int IntKind.i64) vars))) =
 some (TV.v (IV.vslice none (0 : Nat) (List.length vars) (1 : Nat) (List.map (IV.int IntKind.i64) vars))) ∧
 some (TV.v (IV.vslice none (0 : Nat) (List.length imms) (1 : Nat) (List.map (IV.int IntKind.i64) imms))) =
 some (TV.v (IV.vslice none (0 : Nat) (List.length imms) (1 : Nat) (List.map (IV.int IntKind.i64) imms))) ∧
 some (TV.l (5 : Nat) (0 : Nat)) = some (TV.l (5 : Nat) (0 : Nat)) ∧
 some (TV.v (IV.ptr (1 : Nat) (0 : Nat))) = some (TV.v (IV.ptr (1 : Nat) (0 : Nat))) ∧
 some (TV.v (IV.vslice none (0 : Nat) (List.length l) (3 : Nat) (List.flatMap cN l))) =
 some (TV.v (IV.vslice none (0 : Nat) (List.length l) (3 : Nat) (List.flatMap cN l))) ∧
 some (TV.v (IV.int IntKind.i64 (↑(List.length l) : Int))) = some (TV.v (IV.int IntKind.i64 (↑(List.length l) : Int))) ∧
 some (TV.v (IV.int IntKind.i64 (IntKind.wrap IntKind.i64 ((↑(Prod.fst x_2) : Int) + (1 : Int))))) = some (TV.v (IV.int IntKind.i64 (↑(Prod.fst x_3) : Int))) ∧
 some [IV.int IntKind.i64 v, IV.int IntKind.i64 op, IV.int IntKind.i64 im, IV.int IntKind.i64 iv, IV.vslice none (0 : Nat) (List.length ks) (5 : Nat) (cTs ks)] =
 some
 [IV.int IntKind.i64 v, IV.int IntKind.i64 op, IV.int IntKind.i64 im, IV.int IntKind.i64 iv,
 IV.vslice none (0 : Nat) (List.length ks) (5 : Nat) (cTs ks)] ∧
 Prod.fst (Prod.snd x_2) = Prod.snd x_3 ∧
 (Prod.fst x_3 ≤ List.length l ∧ IZ (Prod.snd x_3) (1 : Nat) (0 : Nat) vars imms (List.take (Prod.fst x_3) l)) ∧
 List.length l - Prod.fst x_3 < List.length l - Prod.fst x)
 (hgetS (Prod.fst (Prod.snd x_2)) (1 : Nat) fun (r25 : List IV) =>
 ldMS r25 (1 : Nat) fun (i26 : Nat) =>
 ∃ (ks_2 : List Int),
 (List.length (Nd.ks (Prod.fst (Prod.snd (Prod.snd x_2)))) = List.length ks_2 ∧
 List.map (IV.int IntKind.i64) (Nd.ks (Prod.fst (Prod.snd (Prod.snd x_2)))) = List.map (IV.int IntKind.i64) ks_2) ∧
 List.length ks_2 ≤ (1000000000 : Nat) ∧
 ∀ (s : List UInt8),
 isKy (Nd.mk (Nd.op (Prod.fst (Prod.snd (Prod.snd x_2)))) (Nd.im (Prod.fst (Prod.snd (Prod.snd x_2)))) ks_2) s →
 mupdS (Prod.fst (Prod.snd x_2)) i26 TypeDesc.string (IV.str s) (IV.int IntKind.i64 (↑(Prod.fst x_2) : Int)) fun (es27 : List (IV × IV)) =>
 ∃ (x_3 : Nat × Heap),
 some (TV.v (IV.vslice none (0 : Nat) (List.length l) (3 : Nat) (List.flatMap cN l))) =
 some (TV.v (IV.vslice none (0 : Nat) (List.length l) (3 : Nat) (List.flatMap cN l))) ∧
 some (TV.v (IV.vslice none (0 : Nat) (List.length vars) (1 : Nat) (List.map (IV.int IntKind.i64) vars))) =
 some (TV.v (IV.vslice none (0 : Nat) (List.length vars) (1 : Nat) (List.map (IV.int IntKind.i64) vars))) ∧
 some (TV.v (IV.vslice none (0 : Nat) (List.length imms) (1 : Nat) (List.map (IV.int IntKind.i64) imms))) =
 some (TV.v (IV.vslice none (0 : Nat) (List.length imms) (1 : Nat) (List.map (IV.int IntKind.i64) imms))) ∧
 some (TV.l (5 : Nat) (0 : Nat)) = some (TV.l (5 : Nat) (0 : Nat)) ∧
 some (TV.v (IV.ptr (1 : Nat) (0 : Nat))) = some (TV.v (IV.ptr (1 : Nat) (0 : Nat))) ∧
 some (TV.v (IV.vslice none (0 : Nat) (List.length l) (3 : Nat) (List.flatMap cN l))) =
 some (TV.v (IV.vslice none (0 : Nat) (List.length l) (3 : Nat) (List.flatMap cN l))) ∧
 some (TV.v (IV.int IntKind.i64 (↑(List.length l) : Int))) = some (TV.v (IV.int IntKind.i64 (↑(List.length l) : Int))) ∧
 some (TV.v (IV.int IntKind.i64 (IntKind.wrap IntKind.i64 ((↑(Prod.fst x_2) : Int) + (1 : Int))))) =
 some (TV.v (IV.int IntKind.i64 (↑(Prod.fst x_3) : Int))) ∧
 some
 [IV.int IntKind.i64 v, IV.int IntKind.i64 op, IV.int IntKind.i64 im, IV.int IntKind.i64 iv,
 IV.vslice none (0 : Nat) (List.length ks) (5 : Nat) (cTs ks)] =
 some
 [IV.int IntKind.i64 v, IV.int IntKind.i64 op, IV.int IntKind.i64 im, IV.int IntKind.i64 iv,
 IV.vslice none (0 : Nat) (List.length ks) (5 : Nat) (cTs ks)] ∧
 Heap.set (Prod.fst (Prod.snd x_2)) i26 (IObj.map es27) = Prod.snd x_3 ∧
 (Prod.fst x_3 ≤ List.length l ∧ IZ (Prod.snd x_3) (1 : Nat) (0 : Nat) vars imms (List.take (Prod.fst x_3) l)) ∧
 List.length l - Prod.fst x_3 < List.length l - Prod.fst x)) ∧
 ∀ (x_1 : Nat × Heap × Nd × Nat × Nat) (b : FF),
 l[Prod.fst x_1]? = some (Prod.fst (Prod.snd (Prod.snd x_1))) ∧ IZ (Prod.fst (Prod.snd x_1)) (1 : Nat) (0 : Nat) vars imms (List.take (Prod.fst x_1) l) →
 List.length l - Prod.fst x_1 ≤ M →
 ∃ (M : Nat),
 (hgetS (Prod.fst (Prod.snd x_1)) (1 : Nat) fun (r28 : List IV) =>
 ldNVS (3 : Nat) r28 (0 : Nat)
 (hgetS (Heap.push (Prod.fst (Prod.snd x_1)) (IObj.tip (3 : Nat))) (1 : Nat) fun (r29 : List IV) =>
 needS (Nat.ble (1 : Nat) (List.length r29))
 ((∃ (x : Nat × Heap × Nd),
 some (TV.v (IV.vslice none (0 : Nat) (List.length l) (3 : Nat) (List.flatMap cN l))) = some (TV.v (IV.vslice none (0 : Nat) (List.length l) (3 : Nat) (List.flatMap cN l))) ∧
 some (TV.v (IV.vslice none (0 : Nat) (List.length vars) (1 : Nat) (List.map (IV.int IntKind.i64) vars))) =
 some (TV.v (IV.vslice none (0 : Nat) (List.length vars) (1 : Nat) (List.map (IV.int IntKind.i64) vars))) ∧
 some (TV.v (IV.vslice none (0 : Nat) (List.length imms) (1 : Nat) (List.map (IV.int IntKind.i64) imms))) =
 some (TV.v (IV.vslice none (0 : Nat) (List.length imms) (1 : Nat) (List.map (IV.int IntKind.i64) imms))) ∧
 some (TV.l (5 : Nat) (0 : Nat)) = some (TV.l (5 : Nat) (0 : Nat)) ∧
 some (TV.v (IV.ptr (1 : Nat) (0 : Nat))) = some (TV.v (IV.ptr (1 : Nat) (0 : Nat))) ∧
 some (TV.v (IV.vslice none (0 : Nat) (List.length l) (3 : Nat) (List.flatMap cN l))) = some (TV.v (IV.vslice none (0 : Nat) (List.length l) (3 : Nat) (List.flatMap cN l))) ∧
 some (TV.v (IV.int IntKind.i64 (↑(List.length l) : Int))) = some (TV.v (IV.int IntKind.i64 (↑(List.length l) : Int))) ∧
 some (TV.v (IV.int IntKind.i64 (↑(Prod.fst x_1) : Int))) = some (TV.v (IV.int IntKind.i64 (↑(Prod.fst x) : Int))) ∧
 some (TV.v (IV.int IntKind.i64 (↑(Prod.fst x_1) : Int))) = some (TV.v (IV.int IntKind.i64 (↑(Prod.fst x) : Int))) ∧
 some (TV.l (12 : Nat) (0 : Nat)) = some (TV.l (12 : Nat) (0 : Nat)) ∧
 some [IV.int IntKind.i64 v, IV.int IntKind.i64 op, IV.int IntKind.i64 im, IV.int IntKind.i64 iv, IV.vslice none (0 : Nat) (List.length ks) (5 : Nat) (cTs ks)] =
 some [IV.int IntKind.i64 v, IV.int IntKind.i64 op, IV.int IntKind.i64 im, IV.int IntKind.i64 iv, IV.vslice none (0 : Nat) (List.length ks) (5 : Nat) (cTs ks)] ∧
 some
 [IV.int IntKind.i64 (Nd.op (Prod.fst (Prod.snd (Prod.snd x_1)))), IV.int IntKind.i64 (Nd.im (Prod.fst (Prod.snd (Prod.snd x_1)))),
 IV.vslice (some (Prod.fst (Prod.snd (Prod.snd (Prod.snd x_1))))) (Prod.snd (Prod.snd (Prod.snd (Prod.snd x_1))))
 (List.length (Nd.ks (Prod.fst (Prod.snd (Prod.snd x_1))))) (1 : Nat) (List.map (IV.int IntKind.i64) (Nd.ks (Prod.fst (Prod.snd (Prod.snd x_1)))))] =
 some [IV.int IntKind.i64 (Nd.op (Prod.snd (Prod.snd x))), IV.int IntKind.i64 (Nd.im (Prod.snd (Prod.snd x))), IV.nilslice] ∧
 Heap.set (Heap.push (Prod.fst (Prod.snd x_1)) (IObj.tip (3 : Nat))) (1 : Nat)
 (IObj.cells
 (IV.vslice (some (Heap.next (Prod.fst (Prod.snd x_1)))) (3 : Nat) (1 : Nat) (3 : Nat)
 [IV.int IntKind.i64 (Nd.op (Prod.fst (Prod.snd (Prod.snd x_1)))), IV.int IntKind.i64 (Nd.im (Prod.fst (Prod.snd (Prod.snd x_1)))),
 IV.vslice none (0 : Nat) (List.length (Nd.ks (Prod.fst (Prod.snd (Prod.snd x_1))))) (1 : Nat)
 (List.map (IV.int IntKind.i64) (Nd.ks (Prod.fst (Prod.snd (Prod.snd x_1)))))] ::
 List.drop (1 : Nat) r29)) =
 Prod.fst (Prod.snd x) ∧
 ((l[Prod.fst x]? = some (Prod.snd (Prod.snd x)) ∧ Nd.ks (Prod.snd (Prod.snd x)) = []) ∧
 IP (Prod.fst (Prod.snd x)) (1 : Nat) (0 : Nat) vars imms (List.take (Prod.fst x) l) (Prod.snd (Prod.snd x))) ∧
 List.length l - Prod.fst x ≤ M) ∨
 ∃ (x : Nat × Heap × Nd × Nat × Nat),
 some (TV.v (IV.vslice none (0 : Nat) (List.length l) (3 : Nat) (List.flatMap cN l))) = some (TV.v (IV.vslice none (0 : Nat) (List.length l) (3 : Nat) (List.flatMap cN l))) ∧
 some (TV.v (IV.vslice none (0 : Nat) (List.length vars) (1 : Nat) (List.map (IV.int IntKind.i64) vars))) =
 some (TV.v (IV.vslice none (0 : Nat) (List.length vars) (1 : Nat) (List.map (IV.int IntKind.i64) vars))) ∧
 some (TV.v (IV.vslice none (0 : Nat) (List.length imms) (1 : Nat) (List.map (IV.int IntKind.i64) imms))) =
 some (TV.v (IV.vslice none (0 : Nat) (List.length imms) (1 : Nat) (List.map (IV.int IntKind.i64) imms))) ∧
 some (TV.l (5 : Nat) (0 : Nat)) = some (TV.l (5 : Nat) (0 : Nat)) ∧
 some (TV.v (IV.ptr (1 : Nat) (0 : Nat))) = some (TV.v (IV.ptr (1 : Nat) (0 : Nat))) ∧
 some (TV.v (IV.vslice none (0 : Nat) (List.length l) (3 : Nat) (List.flatMap cN l))) = some (TV.v (IV.vslice none (0 : Nat) (List.length l) (3 : Nat) (List.flatMap cN l))) ∧
 some (TV.v (IV.int IntKind.i64 (↑(List.length l) : Int))) = some (TV.v (IV.int IntKind.i64 (↑(List.length l) : Int))) ∧
 some (TV.v (IV.int IntKind.i64 (↑(Prod.fst x_1) : Int))) = some (TV.v (IV.int IntKind.i64 (↑(Prod.fst x) : Int))) ∧
 some (TV.v (IV.int IntKind.i64 (↑(Prod.fst x_1) : Int))) = some (TV.v (IV.int IntKind.i64 (↑(Prod.fst x) : Int))) ∧
 some (TV.l (12 : Nat) (0 : Nat)) = some (TV.l (12 : Nat) (0 : Nat)) ∧
 some [IV.int IntKind.i64 v, IV.int IntKind.i64 op, IV.int IntKind.i64 im, IV.int IntKind.i64 iv, IV.vslice none (0 : Nat) (List.length ks) (5 : Nat) (cTs ks)] =
 some [IV.int IntKind.i64 v, IV.int IntKind.i64 op, IV.int IntKind.i64 im, IV.int IntKind.i64 iv, IV.vslice none (0 : Nat) (List.length ks) (5 : Nat) (cTs ks)] ∧
 some
 [IV.int IntKind.i64 (Nd.op (Prod.fst (Prod.snd (Prod.snd x_1)))), IV.int IntKind.i64 (Nd.im (Prod.fst (Prod.snd (Prod.snd x_1)))),
 IV.vslice (some (Prod.fst (Prod.snd (Prod.snd (Prod.snd x_1))))) (Prod.snd (Prod.snd (Prod.snd (Prod.snd x_1))))
 (List.length (Nd.ks (Prod.fst (Prod.snd (Prod.snd x_1))))) (1 : Nat) (List.map (IV.int IntKind.i64) (Nd.ks (Prod.fst (Prod.snd (Prod.snd x_1)))))] =
 some
 [IV.int IntKind.i64 (Nd.op (Prod.fst (Prod.snd (Prod.snd x)))), IV.int IntKind.i64 (Nd.im (Prod.fst (Prod.snd (Prod.snd x)))),
 IV.vslice (some (Prod.fst (Prod.snd (Prod.snd (Prod.snd x))))) (Prod.snd (Prod.snd (Prod.snd (Prod.snd x))))
 (List.length (Nd.ks (Prod.fst (Prod.snd (Prod.snd x))))) (1 : Nat) (List.map (IV.int IntKind.i64) (Nd.ks (Prod.fst (Prod.snd (Prod.snd x)))))] ∧
 Heap.set (Heap.push (Prod.fst (Prod.snd x_1)) (IObj.tip (3 : Nat))) (1 : Nat)
 (IObj.cells
 (IV.vslice (some (Heap.next (Prod.fst (Prod.snd x_1)))) (3 : Nat) (1 : Nat) (3 : Nat)
 [IV.int IntKind.i64 (Nd.op (Prod.fst (Prod.snd (Prod.snd x_1)))), IV.int IntKind.i64 (Nd.im (Prod.fst (Prod.snd (Prod.snd x_1)))),
 IV.vslice none (0 : Nat) (List.length (Nd.ks (Prod.fst (Prod.snd (Prod.snd x_1))))) (1 : Nat)
 (List.map (IV.int IntKind.i64) (Nd.ks (Prod.fst (Prod.snd (Prod.snd x_1)))))] ::
 List.drop (1 : Nat) r29)) =
 Prod.fst (Prod.snd x) ∧
 (l[Prod.fst x]? = some (Prod.fst (Prod.snd (Prod.snd x))) ∧
 IP (Prod.fst (Prod.snd x)) (1 : Nat) (0 : Nat) vars imms (List.take (Prod.fst x) l) (Prod.fst (Prod.snd (Prod.snd x)))) ∧
 List.length l - Prod.fst x ≤ M))
 fun (i30 e31 l32 : Nat) (c33 : List IV) =>
 tipS (Prod.fst (Prod.snd x_1)) i30 fun (m34 : Nat) =>
 needS (Nat.beq m34 e31 && Nat.ble ((l32 + (1 : Nat)) * (40 : Nat)) (140737488355328 : Nat))
 (hgetS (Heap.set (Prod.fst (Prod.snd x_1)) i30 (IObj.tip (e31 + (3 : Nat)))) (1 : Nat) fun (r35 : List IV) =>
 needS (Nat.ble (1 : Nat) (List.length r35))
 ((∃ (x : Nat × Heap × Nd),
 some (TV.v (IV.vslice none (0 : Nat) (List.length l) (3 : Nat) (List.flatMap cN l))) = some (TV.v (IV.vslice none (0 : Nat) (List.length l) (3 : Nat) (List.flatMap cN l))) ∧
 some (TV.v (IV.vslice none (0 : Nat) (List.length vars) (1 : Nat) (List.map (IV.int IntKind.i64) vars))) =
 some (TV.v (IV.vslice none (0 : Nat) (List.length vars) (1 : Nat) (List.map (IV.int IntKind.i64) vars))) ∧
 some (TV.v (IV.vslice none (0 : Nat) (List.length imms) (1 : Nat) (List.map (IV.int IntKind.i64) imms))) =
 some (TV.v (IV.vslice none (0 : Nat) (List.length imms) (1 : Nat) (List.map (IV.int IntKind.i64) imms))) ∧
 some (TV.l (5 : Nat) (0 : Nat)) = some (TV.l (5 : Nat) (0 : Nat)) ∧
 some (TV.v (IV.ptr (1 : Nat) (0 : Nat))) = some (TV.v (IV.ptr (1 : Nat) (0 : Nat))) ∧
 some (TV.v (IV.vslice none (0 : Nat) (List.length l) (3 : Nat) (List.flatMap cN l))) = some (TV.v (IV.vslice none (0 : Nat) (List.length l) (3 : Nat) (List.flatMap cN l))) ∧
 some (TV.v (IV.int IntKind.i64 (↑(List.length l) : Int))) = some (TV.v (IV.int IntKind.i64 (↑(List.length l) : Int))) ∧
 some (TV.v (IV.int IntKind.i64 (↑(Prod.fst x_1) : Int))) = some (TV.v (IV.int IntKind.i64 (↑(Prod.fst x) : Int))) ∧
 some (TV.v (IV.int IntKind.i64 (↑(Prod.fst x_1) : Int))) = some (TV.v (IV.int IntKind.i64 (↑(Prod.fst x) : Int))) ∧
 some (TV.l (12 : Nat) (0 : Nat)) = some (TV.l (12 : Nat) (0 : Nat)) ∧
 some [IV.int IntKind.i64 v, IV.int IntKind.i64 op, IV.int IntKind.i64 im, IV.int IntKind.i64 iv, IV.vslice none (0 : Nat) (List.length ks) (5 : Nat) (cTs ks)] =
 some [IV.int IntKind.i64 v, IV.int IntKind.i64 op, IV.int IntKind.i64 im, IV.int IntKind.i64 iv, IV.vslice none (0 : Nat) (List.length ks) (5 : Nat) (cTs ks)] ∧
 some
 [IV.int IntKind.i64 (Nd.op (Prod.fst (Prod.snd (Prod.snd x_1)))), IV.int IntKind.i64 (Nd.im (Prod.fst (Prod.snd (Prod.snd x_1)))),
 IV.vslice (some (Prod.fst (Prod.snd (Prod.snd (Prod.snd x_1))))) (Prod.snd (Prod.snd (Prod.snd (Prod.snd x_1))))
 (List.length (Nd.ks (Prod.fst (Prod.snd (Prod.snd x_1))))) (1 : Nat) (List.map (IV.int IntKind.i64) (Nd.ks (Prod.fst (Prod.snd (Prod.snd x_1)))))] =
 some [IV.int IntKind.i64 (Nd.op (Prod.snd (Prod.snd x))), IV.int IntKind.i64 (Nd.im (Prod.snd (Prod.snd x))), IV.nilslice] ∧
 Heap.set (Heap.set (Prod.fst (Prod.snd x_1)) i30 (IObj.tip (e31 + (3 : Nat)))) (1 : Nat)
 (IObj.cells
 (IV.vslice (some i30) (e31 + (3 : Nat)) (l32 + (1 : Nat)) (3 : Nat)
 (c33 ++
 [IV.int IntKind.i64 (Nd.op (Prod.fst (Prod.snd (Prod.snd x_1)))), IV.int IntKind.i64 (Nd.im (Prod.fst (Prod.snd (Prod.snd x_1)))),
 IV.vslice none (0 : Nat) (List.length (Nd.ks (Prod.fst (Prod.snd (Prod.snd x_1))))) (1 : Nat)
 (List.map (IV.int IntKind.i64) (Nd.ks (Prod.fst (Prod.snd (Prod.snd x_1)))))]) ::
 List.drop (1 : Nat) r35)) =
 Prod.fst (Prod.snd x) ∧
 ((l[Prod.fst x]? = some (Prod.snd (Prod.snd x)) ∧ Nd.ks (Prod.snd (Prod.snd x)) = []) ∧
 IP (Prod.fst (Prod.snd x)) (1 : Nat) (0 : Nat) vars imms (List.take (Prod.fst x) l) (Prod.snd (Prod.snd x))) ∧
 List.length l - Prod.fst x ≤ M) ∨
 ∃ (x : Nat × Heap × Nd × Nat × Nat),
 some (TV.v (IV.vslice none (0 : Nat) (List.length l) (3 : Nat) (List.flatMap cN l))) = some (TV.v (IV.vslice none (0 : Nat) (List.length l) (3 : Nat) (List.flatMap cN l))) ∧
 some (TV.v (IV.vslice none (0 : Nat) (List.length vars) (1 : Nat) (List.map (IV.int IntKind.i64) vars))) =
 some (TV.v (IV.vslice none (0 : Nat) (List.length vars) (1 : Nat) (List.map (IV.int IntKind.i64) vars))) ∧
 some (TV.v (IV.vslice none (0 : Nat) (List.length imms) (1 : Nat) (List.map (IV.int IntKind.i64) imms))) =
 some (TV.v (IV.vslice none (0 : Nat) (List.length imms) (1 : Nat) (List.map (IV.int IntKind.i64) imms))) ∧
 some (TV.l (5 : Nat) (0 : Nat)) = some (TV.l (5 : Nat) (0 : Nat)) ∧
 some (TV.v (IV.ptr (1 : Nat) (0 : Nat))) = some (TV.v (IV.ptr (1 : Nat) (0 : Nat))) ∧
 some (TV.v (IV.vslice none (0 : Nat) (List.length l) (3 : Nat) (List.flatMap cN l))) = some (TV.v (IV.vslice none (0 : Nat) (List.length l) (3 : Nat) (List.flatMap cN l))) ∧
 some (TV.v (IV.int IntKind.i64 (↑(List.length l) : Int))) = some (TV.v (IV.int IntKind.i64 (↑(List.length l) : Int))) ∧
 some (TV.v (IV.int IntKind.i64 (↑(Prod.fst x_1) : Int))) = some (TV.v (IV.int IntKind.i64 (↑(Prod.fst x) : Int))) ∧
 some (TV.v (IV.int IntKind.i64 (↑(Prod.fst x_1) : Int))) = some (TV.v (IV.int IntKind.i64 (↑(Prod.fst x) : Int))) ∧
 some (TV.l (12 : Nat) (0 : Nat)) = some (TV.l (12 : Nat) (0 : Nat)) ∧
 some [IV.int IntKind.i64 v, IV.int IntKind.i64 op, IV.int IntKind.i64 im, IV.int IntKind.i64 iv, IV.vslice none (0 : Nat) (List.length ks) (5 : Nat) (cTs ks)] =
 some [IV.int IntKind.i64 v, IV.int IntKind.i64 op, IV.int IntKind.i64 im, IV.int IntKind.i64 iv, IV.vslice none (0 : Nat) (List.length ks) (5 : Nat) (cTs ks)] ∧
 some
 [IV.int IntKind.i64 (Nd.op (Prod.fst (Prod.snd (Prod.snd x_1)))), IV.int IntKind.i64 (Nd.im (Prod.fst (Prod.snd (Prod.snd x_1)))),
 IV.vslice (some (Prod.fst (Prod.snd (Prod.snd (Prod.snd x_1))))) (Prod.snd (Prod.snd (Prod.snd (Prod.snd x_1))))
 (List.length (Nd.ks (Prod.fst (Prod.snd (Prod.snd x_1))))) (1 : Nat) (List.map (IV.int IntKind.i64) (Nd.ks (Prod.fst (Prod.snd (Prod.snd x_1)))))] =
 some
 [IV.int IntKind.i64 (Nd.op (Prod.fst (Prod.snd (Prod.snd x)))), IV.int IntKind.i64 (Nd.im (Prod.fst (Prod.snd (Prod.snd x)))),
 IV.vslice (some (Prod.fst (Prod.snd (Prod.snd (Prod.snd x))))) (Prod.snd (Prod.snd (Prod.snd (Prod.snd x))))
 (List.length (Nd.ks (Prod.fst (Prod.snd (Prod.snd x))))) (1 : Nat) (List.map (IV.int IntKind.i64) (Nd.ks (Prod.fst (Prod.snd (Prod.snd x)))))] ∧
 Heap.set (Heap.set (Prod.fst (Prod.snd x_1)) i30 (IObj.tip (e31 + (3 : Nat)))) (1 : Nat)
 (IObj.cells
 (IV.vslice (some i30) (e31 + (3 : Nat)) (l32 + (1 : Nat)) (3 : Nat)
 (c33 ++
 [IV.int IntKind.i64 (Nd.op (Prod.fst (Prod.snd (Prod.snd x_1)))), IV.int IntKind.i64 (Nd.im (Prod.fst (Prod.snd (Prod.snd x_1)))),
 IV.vslice none (0 : Nat) (List.length (Nd.ks (Prod.fst (Prod.snd (Prod.snd x_1))))) (1 : Nat)
 (List.map (IV.int IntKind.i64) (Nd.ks (Prod.fst (Prod.snd (Prod.snd x_1)))))]) ::
 List.drop (1 : Nat) r35)) =
 Prod.fst (Prod.snd x) ∧
 (l[Prod.fst x]? = some (Prod.fst (Prod.snd (Prod.snd x))) ∧
 IP (Prod.fst (Prod.snd x)) (1 : Nat) (0 : Nat) vars imms (List.take (Prod.fst x) l) (Prod.fst (Prod.snd (Prod.snd x)))) ∧
 List.length l - Prod.fst x ≤ M))) ∧
 (∀ (x_2 : Nat × Heap × Nd) (b : FF),
 (l[Prod.fst x_2]? = some (Prod.snd (Prod.snd x_2)) ∧ Nd.ks (Prod.snd (Prod.snd x_2)) = []) ∧
 IP (Prod.fst (Prod.snd x_2)) (1 : Nat) (0 : Nat) vars imms (List.take (Prod.fst x_2) l) (Prod.snd (Prod.snd x_2)) →
 List.length l - Prod.fst x_2 ≤ M →
 hgetS (Prod.fst (Prod.snd x_2)) (1 : Nat) fun (r36 : List IV) =>
 ldMS r36 (1 : Nat) fun (i37 : Nat) =>
 ∃ (ks_1 : List Int),
 ((0 : Nat) = List.length ks_1 ∧ [] = List.map (IV.int IntKind.i64) ks_1) ∧
 List.length ks_1 ≤ (1000000000 : Nat) ∧
 ∀ (s : List UInt8),
 isKy (Nd.mk (Nd.op (Prod.snd (Prod.snd x_2))) (Nd.im (Prod.snd (Prod.snd x_2))) ks_1) s →
 mlookS (Prod.fst (Prod.snd x_2)) i37 TypeDesc.string (IV.str s)
 (fun (r38 : List IV) =>
 ldIS IntKind.i64 r38 (0 : Nat) fun (n39 : Int) =>
 ∃ (x_3 : Nat × Heap),
 some (TV.v (IV.vslice none (0 : Nat) (List.length l) (3 : Nat) (List.flatMap cN l))) = some (TV.v (IV.vslice none (0 : Nat) (List.length l) (3 : Nat) (List.flatMap cN l))) ∧
 some (TV.v (IV.vslice none (0 : Nat) (List.length vars) (1 : Nat) (List.map (IV.int IntKind.i64) vars))) =
 some (TV.v (IV.vslice none (0 : Nat) (List.length vars) (1 : Nat) (List.map (IV.int IntKind.i64) vars))) ∧
 some (TV.v (IV.vslice none (0 : Nat) (List.length imms) (1 : Nat) (List.map (IV.int IntKind.i64) imms))) =
 some (TV.v (IV.vslice none (0 : Nat) (List.length imms) (1 : Nat) (List.map (IV.int IntKind.i64) imms))) ∧
 some (TV.l (5 : Nat) (0 : Nat)) = some (TV.l (5 : Nat) (0 : Nat)) ∧
 some (TV.v (IV.ptr (1 : Nat) (0 : Nat))) = some (TV.v (IV.ptr (1 : Nat) (0 : Nat))) ∧
 some (TV.v (IV.vslice none (0 : Nat) (List.length l) (3 : Nat) (List.flatMap cN l))) =
 some (TV.v (IV.vslice none (0 : Nat) (List.length l) (3 : Nat) (List.flatMap cN l))) ∧
 some (TV.v (IV.int IntKind.i64 (↑(List.length l) : Int))) = some (TV.v (IV.int IntKind.i64 (↑(List.length l) : Int))) ∧
 some (TV.v (IV.int IntKind.i64 (IntKind.wrap IntKind.i64 ((↑(Prod.fst x_2) : Int) + (1 : Int))))) = some (TV.v (IV.int IntKind.i64 (↑(Prod.fst x_3) : Int))) ∧
 some [IV.int IntKind.i64 v, IV.int IntKind.i64 op, IV.int IntKind.i64 im, IV.int IntKind.i64 iv, IV.vslice none (0 : Nat) (List.length ks) (5 : Nat) (cTs ks)] =
 some
 [IV.int IntKind.i64 v, IV.int IntKind.i64 op, IV.int IntKind.i64 im, IV.int IntKind.i64 iv,
 IV.vslice none (0 : Nat) (List.length ks) (5 : Nat) (cTs ks)] ∧
 Prod.fst (Prod.snd x_2) = Prod.snd x_3 ∧
 (Prod.fst x_3 ≤ List.length l ∧ IZ (Prod.snd x_3) (1 : Nat) (0 : Nat) vars imms (List.take (Prod.fst x_3) l)) ∧
 List.length l - Prod.fst x_3 < List.length l - Prod.fst x)
 (hgetS (Prod.fst (Prod.snd x_2)) (1 : Nat) fun (r40 : List IV) =>
 ldMS r40 (1 : Nat) fun (i41 : Nat) =>
 ∃ (ks_2 : List Int),
 ((0 : Nat) = List.length ks_2 ∧ [] = List.map (IV.int IntKind.i64) ks_2) ∧
 List.length ks_2 ≤ (1000000000 : Nat) ∧
 ∀ (s : List UInt8),
 isKy (Nd.mk (Nd.op (Prod.snd (Prod.snd x_2))) (Nd.im (Prod.snd (Prod.snd x_2))) ks_2) s →
 mupdS (Prod.fst (Prod.snd x_2)) i41 TypeDesc.string (IV.str s) (IV.int IntKind.i64 (↑(Prod.fst x_2) : Int)) fun (es42 : List (IV × IV)) =>
 ∃ (x_3 : Nat × Heap),
 some (TV.v (IV.vslice none (0 : Nat) (List.length l) (3 : Nat) (List.flatMap cN l))) =
 some (TV.v (IV.vslice none (0 : Nat) (List.length l) (3 : Nat) (List.flatMap cN l))) ∧
 some (TV.v (IV.vslice none (0 : Nat) (List.length vars) (1 : Nat) (List.map (IV.int IntKind.i64) vars))) =
 some (TV.v (IV.vslice none (0 : Nat) (List.length vars) (1 : Nat) (List.map (IV.int IntKind.i64) vars))) ∧
 some (TV.v (IV.vslice none (0 : Nat) (List.length imms) (1 : Nat) (List.map (IV.int IntKind.i64) imms))) =
 some (TV.v (IV.vslice none (0 : Nat) (List.length imms) (1 : Nat) (List.map (IV.int IntKind.i64) imms))) ∧
 some (TV.l (5 : Nat) (0 : Nat)) = some (TV.l (5 : Nat) (0 : Nat)) ∧
 some (TV.v (IV.ptr (1 : Nat) (0 : Nat))) = some (TV.v (IV.ptr (1 : Nat) (0 : Nat))) ∧
 some (TV.v (IV.vslice none (0 : Nat) (List.length l) (3 : Nat) (List.flatMap cN l))) =
 some (TV.v (IV.vslice none (0 : Nat) (List.length l) (3 : Nat) (List.flatMap cN l))) ∧
 some (TV.v (IV.int IntKind.i64 (↑(List.length l) : Int))) = some (TV.v (IV.int IntKind.i64 (↑(List.length l) : Int))) ∧
 some (TV.v (IV.int IntKind.i64 (IntKind.wrap IntKind.i64 ((↑(Prod.fst x_2) : Int) + (1 : Int))))) =
 some (TV.v (IV.int IntKind.i64 (↑(Prod.fst x_3) : Int))) ∧
 some
 [IV.int IntKind.i64 v, IV.int IntKind.i64 op, IV.int IntKind.i64 im, IV.int IntKind.i64 iv,
 IV.vslice none (0 : Nat) (List.length ks) (5 : Nat) (cTs ks)] =
 some
 [IV.int IntKind.i64 v, IV.int IntKind.i64 op, IV.int IntKind.i64 im, IV.int IntKind.i64 iv,
 IV.vslice none (0 : Nat) (List.length ks) (5 : Nat) (cTs ks)] ∧
 Heap.set (Prod.fst (Prod.snd x_2)) i41 (IObj.map es42) = Prod.snd x_3 ∧
 (Prod.fst x_3 ≤ List.length l ∧ IZ (Prod.snd x_3) (1 : Nat) (0 : Nat) vars imms (List.take (Prod.fst x_3) l)) ∧
 List.length l - Prod.fst x_3 < List.length l - Prod.fst x)) ∧
 ∀ (x_2 : Nat × Heap × Nd × Nat × Nat) (b : FF),
 l[Prod.fst x_2]? = some (Prod.fst (Prod.snd (Prod.snd x_2))) ∧ IP (Prod.fst (Prod.snd x_2)) (1 : Nat) (0 : Nat) vars imms (List.take (Prod.fst x_2) l) (Prod.fst (Prod.snd (Prod.snd x_2))) →
 List.length l - Prod.fst x_2 ≤ M →
 hgetS (Prod.fst (Prod.snd x_2)) (1 : Nat) fun (r43 : List IV) =>
 ldMS r43 (1 : Nat) fun (i44 : Nat) =>
 ∃ (ks_1 : List Int),
 (List.length (Nd.ks (Prod.fst (Prod.snd (Prod.snd x_2)))) = List.length ks_1 ∧
 List.map (IV.int IntKind.i64) (Nd.ks (Prod.fst (Prod.snd (Prod.snd x_2)))) = List.map (IV.int IntKind.i64) ks_1) ∧
 List.length ks_1 ≤ (1000000000 : Nat) ∧
 ∀ (s : List UInt8),
 isKy (Nd.mk (Nd.op (Prod.fst (Prod.snd (Prod.snd x_2)))) (Nd.im (Prod.fst (Prod.snd (Prod.snd x_2)))) ks_1) s →
 mlookS (Prod.fst (Prod.snd x_2)) i44 TypeDesc.string (IV.str s)
 (fun (r45 : List IV) =>
 ldIS IntKind.i64 r45 (0 : Nat) fun (n46 : Int) =>
 ∃ (x_3 : Nat × Heap),
 some (TV.v (IV.vslice none (0 : Nat) (List.length l) (3 : Nat) (List.flatMap cN l))) = some (TV.v (IV.vslice none (0 : Nat) (List.length l) (3 : Nat) (List.flatMap cN l))) ∧
 some (TV.v (IV.vslice none (0 : Nat) (List.length vars) (1 : Nat) (List.map (IV.int IntKind.i64) vars))) =
 some (TV.v (IV.vslice none (0 : Nat) (List.length vars) (1 : Nat) (List.map (IV.int IntKind.i64) vars))) ∧
 some (TV.v (IV.vslice none (0 : Nat) (List.length imms) (1 : Nat) (List.map (IV.int IntKind.i64) imms))) =
 some (TV.v (IV.vslice none (0 : Nat) (List.length imms) (1 : Nat) (List.map (IV.int IntKind.i64) imms))) ∧
 some (TV.l (5 : Nat) (0 : Nat)) = some (TV.l (5 : Nat) (0 : Nat)) ∧
 some (TV.v (IV.ptr (1 : Nat) (0 : Nat))) = some (TV.v (IV.ptr (1 : Nat) (0 : Nat))) ∧
 some (TV.v (IV.vslice none (0 : Nat) (List.length l) (3 : Nat) (List.flatMap cN l))) =
 some (TV.v (IV.vslice none (0 : Nat) (List.length l) (3 : Nat) (List.flatMap cN l))) ∧
 some (TV.v (IV.int IntKind.i64 (↑(List.length l) : Int))) = some (TV.v (IV.int IntKind.i64 (↑(List.length l) : Int))) ∧
 some (TV.v (IV.int IntKind.i64 (IntKind.wrap IntKind.i64 ((↑(Prod.fst x_2) : Int) + (1 : Int))))) = some (TV.v (IV.int IntKind.i64 (↑(Prod.fst x_3) : Int))) ∧
 some [IV.int IntKind.i64 v, IV.int IntKind.i64 op, IV.int IntKind.i64 im, IV.int IntKind.i64 iv, IV.vslice none (0 : Nat) (List.length ks) (5 : Nat) (cTs ks)] =
 some
 [IV.int IntKind.i64 v, IV.int IntKind.i64 op, IV.int IntKind.i64 im, IV.int IntKind.i64 iv,
 IV.vslice none (0 : Nat) (List.length ks) (5 : Nat) (cTs ks)] ∧
 Prod.fst (Prod.snd x_2) = Prod.snd x_3 ∧
 (Prod.fst x_3 ≤ List.length l ∧ IZ (Prod.snd x_3) (1 : Nat) (0 : Nat) vars imms (List.take (Prod.fst x_3) l)) ∧
 List.length l - Prod.fst x_3 < List.length l - Prod.fst x)
 (hgetS (Prod.fst (Prod.snd x_2)) (1 : Nat) fun (r47 : List IV) =>
 ldMS r47 (1 : Nat) fun (i48 : Nat) =>
 ∃ (ks_2 : List Int),
 (List.length (Nd.ks (Prod.fst (Prod.snd (Prod.snd x_2)))) = List.length ks_2 ∧
 List.map (IV.int IntKind.i64) (Nd.ks (Prod.fst (Prod.snd (Prod.snd x_2)))) = List.map (IV.int IntKind.i64) ks_2) ∧
 List.length ks_2 ≤ (1000000000 : Nat) ∧
 ∀ (s : List UInt8),
 isKy (Nd.mk (Nd.op (Prod.fst (Prod.snd (Prod.snd x_2)))) (Nd.im (Prod.fst (Prod.snd (Prod.snd x_2)))) ks_2) s →
 mupdS (Prod.fst (Prod.snd x_2)) i48 TypeDesc.string (IV.str s) (IV.int IntKind.i64 (↑(Prod.fst x_2) : Int)) fun (es49 : List (IV × IV)) =>
 ∃ (x_3 : Nat × Heap),
 some (TV.v (IV.vslice none (0 : Nat) (List.length l) (3 : Nat) (List.flatMap cN l))) =
 some (TV.v (IV.vslice none (0 : Nat) (List.length l) (3 : Nat) (List.flatMap cN l))) ∧
 some (TV.v (IV.vslice none (0 : Nat) (List.length vars) (1 : Nat) (List.map (IV.int IntKind.i64) vars))) =
 some (TV.v (IV.vslice none (0 : Nat) (List.length vars) (1 : Nat) (List.map (IV.int IntKind.i64) vars))) ∧
 some (TV.v (IV.vslice none (0 : Nat) (List.length imms) (1 : Nat) (List.map (IV.int IntKind.i64) imms))) =
 some (TV.v (IV.vslice none (0 : Nat) (List.length imms) (1 : Nat) (List.map (IV.int IntKind.i64) imms))) ∧
 some (TV.l (5 : Nat) (0 : Nat)) = some (TV.l (5 : Nat) (0 : Nat)) ∧
 some (TV.v (IV.ptr (1 : Nat) (0 : Nat))) = some (TV.v (IV.ptr (1 : Nat) (0 : Nat))) ∧
 some (TV.v (IV.vslice none (0 : Nat) (List.length l) (3 : Nat) (List.flatMap cN l))) =
 some (TV.v (IV.vslice none (0 : Nat) (List.length l) (3 : Nat) (List.flatMap cN l))) ∧
 some (TV.v (IV.int IntKind.i64 (↑(List.length l) : Int))) = some (TV.v (IV.int IntKind.i64 (↑(List.length l) : Int))) ∧
 some (TV.v (IV.int IntKind.i64 (IntKind.wrap IntKind.i64 ((↑(Prod.fst x_2) : Int) + (1 : Int))))) =
 some (TV.v (IV.int IntKind.i64 (↑(Prod.fst x_3) : Int))) ∧
 some
 [IV.int IntKind.i64 v, IV.int IntKind.i64 op, IV.int IntKind.i64 im, IV.int IntKind.i64 iv,
 IV.vslice none (0 : Nat) (List.length ks) (5 : Nat) (cTs ks)] =
 some
 [IV.int IntKind.i64 v, IV.int IntKind.i64 op, IV.int IntKind.i64 im, IV.int IntKind.i64 iv,
 IV.vslice none (0 : Nat) (List.length ks) (5 : Nat) (cTs ks)] ∧
 Heap.set (Prod.fst (Prod.snd x_2)) i48 (IObj.map es49) = Prod.snd x_3 ∧
 (Prod.fst x_3 ≤ List.length l ∧ IZ (Prod.snd x_3) (1 : Nat) (0 : Nat) vars imms (List.take (Prod.fst x_3) l)) ∧
 List.length l - Prod.fst x_3 < List.length l - Prod.fst x)))
 (∃ (ks_1 : List T),
 (List.length ks = List.length ks_1 ∧ cTs ks = cTs ks_1) ∧
 (thins ks_1 ∧ List.length ks_1 ≤ (1000000000000000 : Nat)) ∧
 brS (!valB (T.mk v op im iv ks_1) (↑(List.length vars) : Int) (↑(List.length imms) : Int))
 (hgetS (Prod.snd x) (1 : Nat) fun (r50 : List IV) =>
 ldVS (3 : Nat) r50 (0 : Nat) fun (i51 : Option Nat) (e52 l53 : Nat) (c54 : List IV) =>
 needS (pureL [IV.vslice none (0 : Nat) l53 (3 : Nat) c54, IV.int IntKind.i64 (-1 : Int)]) (Q (IV.tuple [IV.vslice none (0 : Nat) l53 (3 : Nat) c54, IV.int IntKind.i64 (-1 : Int)]) h))
 (∃ (vars_1 : List Int),
 (List.length vars = List.length vars_1 ∧ List.map (IV.int IntKind.i64) vars = List.map (IV.int IntKind.i64) vars_1) ∧
 List.length vars_1 ≤ (1000000000 : Nat) ∧
 brS (!List.all vars_1 fun (i : Int) => decide ((0 : Int) ≤ i) && decide (i < (↑(List.length l) : Int)))
 (hgetS (Prod.snd x) (1 : Nat) fun (r55 : List IV) =>
 ldVS (3 : Nat) r55 (0 : Nat) fun (i56 : Option Nat) (e57 l58 : Nat) (c59 : List IV) =>
 needS (pureL [IV.vslice none (0 : Nat) l58 (3 : Nat) c59, IV.int IntKind.i64 (-1 : Int)]) (Q (IV.tuple [IV.vslice none (0 : Nat) l58 (3 : Nat) c59, IV.int IntKind.i64 (-1 : Int)]) h))
 (∃ (d : Nat),
 ∃ (ks_2 : List T),
 ∃ (m : Nat),
 ∃ (iL : Nat),
 ∃ (vars : List Int),
 ∃ (imms : List Int),
 ∃ (l : List Nd),
 (List.length ks = List.length ks_2 ∧ cTs ks = cTs ks_2) ∧
 IS (Prod.snd x) (1 : Nat) m iL vars imms l ∧
 (T.num (T.mk v op im iv ks_2) ≤ d ∧ T.wi (T.mk v op im iv ks_2) (↑(List.length vars) : Int) (↑(List.length imms) : Int) ∧ T.ok (T.mk v op im iv ks_2)) ∧
 ((∀ (x : Int), x ∈ vars → i64b x) ∧
 (∀ (x : Int), x ∈ imms → i64b x) ∧
 (∀ (x : Nd), x ∈ l → okN x) ∧ List.length l + T.num (T.mk v op im iv ks_2) ≤ (1000000000 : Nat) ∧ List.length vars ≤ (1000 : Nat) ∧ List.length imms ≤ (1000 : Nat)) ∧
 ∀ (h2 : Heap),
 IS h2 (1 : Nat) m iL vars imms (Prod.fst (instA (T.mk v op im iv ks_2) vars imms l)) →
 FR3 (1 : Nat) m iL (Prod.snd x) h2 →
 hgetS h2 (1 : Nat) fun (r60 : List IV) =>
 ldVS (3 : Nat) r60 (0 : Nat) fun (i61 : Option Nat) (e62 l63 : Nat) (c64 : List IV) =>
 needS (pureL [IV.vslice none (0 : Nat) l63 (3 : Nat) c64, IV.int IntKind.i64 (Prod.snd (instA (T.mk v op im iv ks_2) vars imms l))])
 (Q (IV.tuple [IV.vslice none (0 : Nat) l63 (3 : Nat) c64, IV.int IntKind.i64 (Prod.snd (instA (T.mk v op im iv ks_2) vars imms l))]) h)))))) := by kernel_rfl
set_option maxHeartbeats 2000000 in
theorem sInsta : ∀ xs h Q, kInsta xs h Q → CallW env 22 xs h Q := by
  intro xs h Q hk
  unfold kInsta at hk
  split at hk
  · rename_i n1 c1 v op im iv n2 c2 n3 c3 n4 c4
    obtain ⟨l, ks, vars, imms, ⟨rfl, rfl⟩, ⟨rfl, rfl⟩, ⟨rfl, rfl⟩, ⟨rfl, rfl⟩, hb, hk⟩ := hk
    refine dF_run (okInst) (vInsta v op im iv ks vars imms l h Q) ?_
    have tn : ∀ x : Nat, (x : Int).toNat = x := Int.toNat_natCast
    obtain ⟨⟨hl0, hlo, hll, hlk⟩, ⟨hok, hnm⟩, ⟨hv, hvl⟩, him, hil⟩ := hb
    have hnum : (T.mk v op im iv ks).num = nums ks + 1 := rfl
    have hlen := len_nums ks
    rw [hnum] at hnm
    have nth : ∀ {i : Nat} (h : i < l.length), l[i]? = some l[i] := fun h => List.getElem?_eq_getElem h
    have tk : ∀ {i : Nat} (h : i < l.length), l.take i ++ [l[i]] = l.take (i + 1) := fun h => (List.take_succ_eq_append_getElem h).symm
    have tko : ∀ i, ∀ x ∈ l.take i, okN x := fun i x hx => hlo x (List.mem_of_mem_take hx)
    refine needS_intro (by simp only [pureL, pureB, pureL_ints, pureL_cTs, pureL_cN, Bool.and_true]) ⟨⟨(0, _), rfl, rfl, rfl, rfl, rfl, rfl, rfl, rfl, rfl, rfl, ⟨Nat.zero_le _, .inl ⟨List.take_zero, ⟨Nat.lt_succ_self _, Nat.lt_succ_of_lt (Nat.lt_succ_self _), by decide⟩, rfl, rfl⟩⟩, trivial⟩, ?_⟩
    rintro ⟨i, g⟩ _ ⟨hi, hz⟩
    dsimp only at hi hz ⊢
    refine brS_intro (fun c => ?_) (fun c => ?_)
    · rw [decide_eq_true_eq] at c
      have hlt : i < l.length := by omega
      have hn := hlo _ (List.getElem_mem hlt)
      have hkl := hlk _ (List.getElem_mem hlt)
      simp only [tn]
      refine needS_intro (by simp; omega) (ldNd hlt rfl ⟨l.length - i, brS_intro (fun c1 => .inl ⟨(i, g, l[i]), (by first | rfl | exact True.intro), (by first | rfl | exact True.intro), (by first | rfl | exact True.intro), (by first | rfl | exact True.intro), (by first | rfl | exact True.intro), (by first | rfl | exact True.intro), (by first | rfl | exact True.intro), (by first | rfl | exact True.intro), (by first | rfl | exact True.intro), (by first | rfl | exact True.intro), (by first | rfl | exact True.intro), (by first | rfl | exact True.intro), (by first | rfl | exact True.intro), ⟨⟨nth hlt, ?_⟩, hz⟩, Nat.le_refl _⟩) (fun c1 => needS_intro (by rw [Nat.ble_eq]; omega) (.inr ⟨(i, g.push (.tip (l[i].ks.length * 1)), l[i], g.next, l[i].ks.length * 1), (by first | rfl | exact True.intro), (by first | rfl | exact True.intro), (by first | rfl | exact True.intro), (by first | rfl | exact True.intro), (by first | rfl | exact True.intro), (by first | rfl | exact True.intro), (by first | rfl | exact True.intro), (by first | rfl | exact True.intro), (by first | rfl | exact True.intro), (by first | rfl | exact True.intro), (by first | rfl | exact True.intro), (by first | rfl | exact True.intro), (by first | rfl | exact True.intro), ⟨nth hlt, hz.push⟩, Nat.le_refl _⟩)), ?_, ?_⟩)
      · exact List.eq_nil_of_length_eq_zero (nbeq_t.1 c1)
      · rintro ⟨i, g, n⟩ _ ⟨⟨hnth, hks⟩, hz⟩ hM1
        dsimp only at hnth hks hz hM1 ⊢
        obtain ⟨hlt, rfl⟩ := List.getElem?_eq_some_iff.1 hnth
        have hn := hlo _ (List.getElem_mem hlt)
        have hkl := hlk _ (List.getElem_mem hlt)
        have tkl : (l.take i).length = i := by rw [List.length_take]; omega
        refine ⟨l.length - i, ?_, ?_, ?_⟩
        · rcases hz with ⟨h0, ⟨b1, b2, b3⟩, h1, h2⟩ | ⟨iL, his⟩
          · have hp := IZ.toP b1 b2 b3 h1 h2 l[i]
            rw [← h0] at hp
            have eC : cN l[i] = [.int .i64 l[i].op, .int .i64 l[i].im, .vslice none 0 0 1 []] := by unfold cN; rw [hks]; rfl
            rw [eC] at hp
            refine hget_intro h1 (ldNV_nil rfl (hget_intro (by rw [get_push_lt b1, h1]) (needS_intro rfl (.inl ⟨(i, _, l[i]), (by first | rfl | exact True.intro), (by first | rfl | exact True.intro), (by first | rfl | exact True.intro), (by first | rfl | exact True.intro), (by first | rfl | exact True.intro), (by first | rfl | exact True.intro), (by first | rfl | exact True.intro), (by first | rfl | exact True.intro), (by first | rfl | exact True.intro), (by first | rfl | exact True.intro), (by first | rfl | exact True.intro), (by first | rfl | exact True.intro), (by first | rfl | exact True.intro), ⟨⟨hnth, hks⟩, hp⟩, Nat.le_refl _⟩))))
          · have hp := his.toP l[i]
            have hne := his.ne
            have his0_ := his
            obtain ⟨b, h1, h2, h3⟩ := his0_
            have eC : cN l[i] = [.int .i64 l[i].op, .int .i64 l[i].im, .vslice none 0 0 1 []] := by unfold cN; rw [hks]; rfl
            rw [eC] at hp
            refine hget_intro h1 (ldNV_v rfl (tip_intro h2 (needS_intro (by simp only [Bool.and_eq_true, nbeq_t, Nat.ble_eq, true_and]; omega) (hget_intro (by rw [get_set_ne hne.2.1, h1]) (needS_intro rfl (.inl ⟨(i, _, l[i]), (by first | rfl | exact True.intro), (by first | rfl | exact True.intro), (by first | rfl | exact True.intro), (by first | rfl | exact True.intro), (by first | rfl | exact True.intro), (by first | rfl | exact True.intro), (by first | rfl | exact True.intro), (by first | rfl | exact True.intro), (by first | rfl | exact True.intro), (by first | rfl | exact True.intro), (by first | rfl | exact True.intro), (by first | rfl | exact True.intro), (by first | rfl | exact True.intro), ⟨⟨hnth, hks⟩, hp⟩, Nat.le_refl _⟩))))))
        · rintro ⟨i, g, n⟩ _ ⟨⟨hnth, hks⟩, hp⟩ hM2
          dsimp only at hnth hp hM2 hks ⊢
          obtain ⟨hlt, rfl⟩ := List.getElem?_eq_some_iff.1 hnth
          have hn := hlo _ (List.getElem_mem hlt)
          have hkl := hlk _ (List.getElem_mem hlt)
          have tkl : (l.take i).length = i := by rw [List.length_take]; omega
          have hlk2 := look_ixm hn (tko i)
          have hp0 := hp
          obtain ⟨iL, b, h1, h2, h3⟩ := hp0
          have eN : (⟨l[i].op, l[i].im, ([] : List Int)⟩ : Nd) = l[i] := by (show (⟨l[i].op, l[i].im, []⟩ : Nd) = l[i]; rw [← hks])
          refine hget_intro h1 (ldM_at rfl ⟨([] : List Int), ⟨by simp, by simp⟩, by simp, fun s hs => ?_⟩)
          unfold isKy at hs
          subst hs
          rw [eN]
          cases e : fidx l[i] (l.take i) 0 with
          | some j =>
            rw [e] at hlk2
            have hq := hp.found hn (tko i) e
            rw [tk hlt] at hq
            exact mlook_some h3 (by rw [find_cE, hlk2]; rfl) (ldI_at rfl ⟨(i + 1, g), (by first | rfl | exact True.intro), (by first | rfl | exact True.intro), (by first | rfl | exact True.intro), (by first | rfl | exact True.intro), (by first | rfl | exact True.intro), (by first | rfl | exact True.intro), (by first | rfl | exact True.intro), by rw [IntWalk.i64_in _ (by omega)]; rfl, (by first | rfl | exact True.intro), (by first | rfl | exact True.intro), ⟨hlt, hq⟩, by (try dsimp only); omega⟩)
          | none =>
            rw [e] at hlk2
            have hq := hp.new hn (tko i) e
            rw [tk hlt, tkl] at hq
            refine mlook_none h3 (by rw [find_cE, hlk2]; rfl) (hget_intro h1 (ldM_at rfl ⟨([] : List Int), ⟨by simp, by simp⟩, by simp, fun s hs => ?_⟩))
            unfold isKy at hs
            subst hs
            rw [eN]
            exact mupd_intro h3 (upd_cE _ _ _ (by rw [hlk2]; rfl)) ⟨(i + 1, _), (by first | rfl | exact True.intro), (by first | rfl | exact True.intro), (by first | rfl | exact True.intro), (by first | rfl | exact True.intro), (by first | rfl | exact True.intro), (by first | rfl | exact True.intro), (by first | rfl | exact True.intro), by rw [IntWalk.i64_in _ (by omega)]; rfl, (by first | rfl | exact True.intro), (by first | rfl | exact True.intro), ⟨hlt, hq⟩, by (try dsimp only); omega⟩
        · rintro ⟨i, g, n, j2, e2⟩ _ ⟨hnth, hp⟩ hM2
          dsimp only at hnth hp hM2  ⊢
          obtain ⟨hlt, rfl⟩ := List.getElem?_eq_some_iff.1 hnth
          have hn := hlo _ (List.getElem_mem hlt)
          have hkl := hlk _ (List.getElem_mem hlt)
          have tkl : (l.take i).length = i := by rw [List.length_take]; omega
          have hlk2 := look_ixm hn (tko i)
          have hp0 := hp
          obtain ⟨iL, b, h1, h2, h3⟩ := hp0
          have eN : (⟨l[i].op, l[i].im, l[i].ks⟩ : Nd) = l[i] := by rfl
          refine hget_intro h1 (ldM_at rfl ⟨l[i].ks, ⟨by simp, by simp⟩, by omega, fun s hs => ?_⟩)
          unfold isKy at hs
          subst hs
          rw [eN]
          cases e : fidx l[i] (l.take i) 0 with
          | some j =>
            rw [e] at hlk2
            have hq := hp.found hn (tko i) e
            rw [tk hlt] at hq
            exact mlook_some h3 (by rw [find_cE, hlk2]; rfl) (ldI_at rfl ⟨(i + 1, g), (by first | rfl | exact True.intro), (by first | rfl | exact True.intro), (by first | rfl | exact True.intro), (by first | rfl | exact True.intro), (by first | rfl | exact True.intro), (by first | rfl | exact True.intro), (by first | rfl | exact True.intro), by rw [IntWalk.i64_in _ (by omega)]; rfl, (by first | rfl | exact True.intro), (by first | rfl | exact True.intro), ⟨hlt, hq⟩, by (try dsimp only); omega⟩)
          | none =>
            rw [e] at hlk2
            have hq := hp.new hn (tko i) e
            rw [tk hlt, tkl] at hq
            refine mlook_none h3 (by rw [find_cE, hlk2]; rfl) (hget_intro h1 (ldM_at rfl ⟨l[i].ks, ⟨by simp, by simp⟩, by omega, fun s hs => ?_⟩))
            unfold isKy at hs
            subst hs
            rw [eN]
            exact mupd_intro h3 (upd_cE _ _ _ (by rw [hlk2]; rfl)) ⟨(i + 1, _), (by first | rfl | exact True.intro), (by first | rfl | exact True.intro), (by first | rfl | exact True.intro), (by first | rfl | exact True.intro), (by first | rfl | exact True.intro), (by first | rfl | exact True.intro), (by first | rfl | exact True.intro), by rw [IntWalk.i64_in _ (by omega)]; rfl, (by first | rfl | exact True.intro), (by first | rfl | exact True.intro), ⟨hlt, hq⟩, by (try dsimp only); omega⟩
      · rintro ⟨i, g, n, j2, e2⟩ _ ⟨hnth, hz⟩ hM1
        dsimp only at hnth hz hM1 ⊢
        obtain ⟨hlt, rfl⟩ := List.getElem?_eq_some_iff.1 hnth
        have hn := hlo _ (List.getElem_mem hlt)
        have hkl := hlk _ (List.getElem_mem hlt)
        have tkl : (l.take i).length = i := by rw [List.length_take]; omega
        refine ⟨l.length - i, ?_, ?_, ?_⟩
        · rcases hz with ⟨h0, ⟨b1, b2, b3⟩, h1, h2⟩ | ⟨iL, his⟩
          · have hp := IZ.toP b1 b2 b3 h1 h2 l[i]
            rw [← h0] at hp
            skip
            refine hget_intro h1 (ldNV_nil rfl (hget_intro (by rw [get_push_lt b1, h1]) (needS_intro rfl (.inr ⟨(i, _, l[i], j2, e2), (by first | rfl | exact True.intro), (by first | rfl | exact True.intro), (by first | rfl | exact True.intro), (by first | rfl | exact True.intro), (by first | rfl | exact True.intro), (by first | rfl | exact True.intro), (by first | rfl | exact True.intro), (by first | rfl | exact True.intro), (by first | rfl | exact True.intro), (by first | rfl | exact True.intro), (by first | rfl | exact True.intro), (by first | rfl | exact True.intro), (by first | rfl | exact True.intro), ⟨hnth, hp⟩, Nat.le_refl _⟩))))
          · have hp := his.toP l[i]
            have hne := his.ne
            have his0_ := his
            obtain ⟨b, h1, h2, h3⟩ := his0_
            skip
            refine hget_intro h1 (ldNV_v rfl (tip_intro h2 (needS_intro (by simp only [Bool.and_eq_true, nbeq_t, Nat.ble_eq, true_and]; omega) (hget_intro (by rw [get_set_ne hne.2.1, h1]) (needS_intro rfl (.inr ⟨(i, _, l[i], j2, e2), (by first | rfl | exact True.intro), (by first | rfl | exact True.intro), (by first | rfl | exact True.intro), (by first | rfl | exact True.intro), (by first | rfl | exact True.intro), (by first | rfl | exact True.intro), (by first | rfl | exact True.intro), (by first | rfl | exact True.intro), (by first | rfl | exact True.intro), (by first | rfl | exact True.intro), (by first | rfl | exact True.intro), (by first | rfl | exact True.intro), (by first | rfl | exact True.intro), ⟨hnth, hp⟩, Nat.le_refl _⟩))))))
        · rintro ⟨i, g, n⟩ _ ⟨⟨hnth, hks⟩, hp⟩ hM2
          dsimp only at hnth hp hM2 hks ⊢
          obtain ⟨hlt, rfl⟩ := List.getElem?_eq_some_iff.1 hnth
          have hn := hlo _ (List.getElem_mem hlt)
          have hkl := hlk _ (List.getElem_mem hlt)
          have tkl : (l.take i).length = i := by rw [List.length_take]; omega
          have hlk2 := look_ixm hn (tko i)
          have hp0 := hp
          obtain ⟨iL, b, h1, h2, h3⟩ := hp0
          have eN : (⟨l[i].op, l[i].im, ([] : List Int)⟩ : Nd) = l[i] := by (show (⟨l[i].op, l[i].im, []⟩ : Nd) = l[i]; rw [← hks])
          refine hget_intro h1 (ldM_at rfl ⟨([] : List Int), ⟨by simp, by simp⟩, by simp, fun s hs => ?_⟩)
          unfold isKy at hs
          subst hs
          rw [eN]
          cases e : fidx l[i] (l.take i) 0 with
          | some j =>
            rw [e] at hlk2
            have hq := hp.found hn (tko i) e
            rw [tk hlt] at hq
            exact mlook_some h3 (by rw [find_cE, hlk2]; rfl) (ldI_at rfl ⟨(i + 1, g), (by first | rfl | exact True.intro), (by first | rfl | exact True.intro), (by first | rfl | exact True.intro), (by first | rfl | exact True.intro), (by first | rfl | exact True.intro), (by first | rfl | exact True.intro), (by first | rfl | exact True.intro), by rw [IntWalk.i64_in _ (by omega)]; rfl, (by first | rfl | exact True.intro), (by first | rfl | exact True.intro), ⟨hlt, hq⟩, by (try dsimp only); omega⟩)
          | none =>
            rw [e] at hlk2
            have hq := hp.new hn (tko i) e
            rw [tk hlt, tkl] at hq
            refine mlook_none h3 (by rw [find_cE, hlk2]; rfl) (hget_intro h1 (ldM_at rfl ⟨([] : List Int), ⟨by simp, by simp⟩, by simp, fun s hs => ?_⟩))
            unfold isKy at hs
            subst hs
            rw [eN]
            exact mupd_intro h3 (upd_cE _ _ _ (by rw [hlk2]; rfl)) ⟨(i + 1, _), (by first | rfl | exact True.intro), (by first | rfl | exact True.intro), (by first | rfl | exact True.intro), (by first | rfl | exact True.intro), (by first | rfl | exact True.intro), (by first | rfl | exact True.intro), (by first | rfl | exact True.intro), by rw [IntWalk.i64_in _ (by omega)]; rfl, (by first | rfl | exact True.intro), (by first | rfl | exact True.intro), ⟨hlt, hq⟩, by (try dsimp only); omega⟩
        · rintro ⟨i, g, n, j2, e2⟩ _ ⟨hnth, hp⟩ hM2
          dsimp only at hnth hp hM2  ⊢
          obtain ⟨hlt, rfl⟩ := List.getElem?_eq_some_iff.1 hnth
          have hn := hlo _ (List.getElem_mem hlt)
          have hkl := hlk _ (List.getElem_mem hlt)
          have tkl : (l.take i).length = i := by rw [List.length_take]; omega
          have hlk2 := look_ixm hn (tko i)
          have hp0 := hp
          obtain ⟨iL, b, h1, h2, h3⟩ := hp0
          have eN : (⟨l[i].op, l[i].im, l[i].ks⟩ : Nd) = l[i] := by rfl
          refine hget_intro h1 (ldM_at rfl ⟨l[i].ks, ⟨by simp, by simp⟩, by omega, fun s hs => ?_⟩)
          unfold isKy at hs
          subst hs
          rw [eN]
          cases e : fidx l[i] (l.take i) 0 with
          | some j =>
            rw [e] at hlk2
            have hq := hp.found hn (tko i) e
            rw [tk hlt] at hq
            exact mlook_some h3 (by rw [find_cE, hlk2]; rfl) (ldI_at rfl ⟨(i + 1, g), (by first | rfl | exact True.intro), (by first | rfl | exact True.intro), (by first | rfl | exact True.intro), (by first | rfl | exact True.intro), (by first | rfl | exact True.intro), (by first | rfl | exact True.intro), (by first | rfl | exact True.intro), by rw [IntWalk.i64_in _ (by omega)]; rfl, (by first | rfl | exact True.intro), (by first | rfl | exact True.intro), ⟨hlt, hq⟩, by (try dsimp only); omega⟩)
          | none =>
            rw [e] at hlk2
            have hq := hp.new hn (tko i) e
            rw [tk hlt, tkl] at hq
            refine mlook_none h3 (by rw [find_cE, hlk2]; rfl) (hget_intro h1 (ldM_at rfl ⟨l[i].ks, ⟨by simp, by simp⟩, by omega, fun s hs => ?_⟩))
            unfold isKy at hs
            subst hs
            rw [eN]
            exact mupd_intro h3 (upd_cE _ _ _ (by rw [hlk2]; rfl)) ⟨(i + 1, _), (by first | rfl | exact True.intro), (by first | rfl | exact True.intro), (by first | rfl | exact True.intro), (by first | rfl | exact True.intro), (by first | rfl | exact True.intro), (by first | rfl | exact True.intro), (by first | rfl | exact True.intro), by rw [IntWalk.i64_in _ (by omega)]; rfl, (by first | rfl | exact True.intro), (by first | rfl | exact True.intro), ⟨hlt, hq⟩, by (try dsimp only); omega⟩
    · rw [decide_eq_false_iff_not] at c
      have hi2 : i = l.length := by omega
      subst hi2
      rw [List.take_length] at hz
      obtain ⟨iL, his⟩ : ∃ iL, IS g 1 0 iL vars imms l := by
        rcases hz with ⟨h0, _⟩ | q
        · exact absurd h0 hl0
        · exact q
      have his0 := his
      obtain ⟨b, h1, h2, h3⟩ := his0
      have bad : ¬ (valB (T.mk v op im iv ks) vars.length imms.length = true ∧ vars.all (fun i => decide (0 ≤ i) && decide (i < (l.length : Int))) = true) → hgetS g 1 fun r => ldVS 3 r 0 fun i e n c => needS (pureL [.vslice none 0 n 3 c, .int .i64 (-1)]) (Q (.tuple [.vslice none 0 n 3 c, .int .i64 (-1)]) h) := fun hno => by
        unfold instB at hk
        rw [if_neg hno] at hk
        exact hget_intro h1 (ldV_at rfl (needS_intro (by simp only [pureL, pureB, pureL_cN, Bool.and_true]) hk))
      refine ⟨ks, ⟨rfl, rfl⟩, ⟨thins_nums ks (by omega), by omega⟩, brS_intro (fun c1 => bad (fun q => by rw [q.1] at c1; cases c1)) (fun c1 => ⟨vars, ⟨rfl, rfl⟩, by omega, brS_intro (fun c2 => bad (fun q => by rw [q.2] at c2; cases c2)) (fun c2 => ?_)⟩)⟩
      rw [Bool.not_eq_false'] at c1 c2
      unfold instB at hk
      rw [if_pos ⟨c1, c2⟩] at hk
      have hw := valB_wi c1
      have hio := instA_ok (T.mk v op im iv ks) vars imms l hok hv him hlo (by rw [hnum]; omega)
      refine ⟨(T.mk v op im iv ks).num, ks, 0, iL, vars, imms, l, ⟨rfl, rfl⟩, his, ⟨Nat.le_refl _, hw.1, hok⟩, ⟨hv, him, hlo, by rw [hnum]; omega, hvl, hil⟩, fun h4 hs4 hf4 => ?_⟩
      obtain ⟨b', h1', h2', h3'⟩ := hs4
      exact hget_intro h1' (ldV_at rfl (needS_intro (by simp only [pureL, pureB, pureL_cN, Bool.and_true]) hk))
  · exact hk.elim
def cInsta := addC 22 kInsta cInst
theorem okInsta : Sound env cInsta := sound_add sInsta (okInst)

end Go.Proofs.Ytmfnadojephcpaa
