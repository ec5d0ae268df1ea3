/-
  Patterns: generated patterns of values.
  Conditions: none.
-/
import Derived.Test.YtmfnadojephcpaaX15
import Derived.KernelRfl
set_option linter.unusedVariables false
set_option linter.unusedSimpArgs false
namespace Go.Proofs.Ytmfnadojephcpaa
open Go.Pv Go.M15
theorem vo_mk {v op im iv : Int} {ks : List T} (h : 0 < v ∨ (valOp op ∧ vos ks)) : (T.mk v op im iv ks).vo := by
  rw [T.vo]
  exact h
/-- behind the seed: is it a leaf -/
def vtCut0 (id : Nat) (dp vs : Int) (h : Heap) : Inv' := atX (Int × Int × Bool × Heap) (fun x => [(0, .v (.ptr id 0)), (1, .v (.int .i64 1)), (2, .v (.int .i64 dp)), (3, .v (.int .i64 vs)), (4, .v (.bool false)), (10, .l 10 0), (11, .v (.int .i64 x.1)), (12, .v (.int .i64 (x.1 % 12))), (13, .v (.int .i64 x.2.1)), (30, .v (.bool x.2.2.1))]) (fun x => [(10, [.int .i64 0, .int .i64 0, .int .i64 0, .int .i64 0, .nilslice])]) (fun x => x.2.2.2)
  (fun x => i64b x.1 ∧ (0 ≤ x.2.1 ∧ x.2.1 < 1000) ∧ (x.2.2.1 = false → dp ≤ 2) ∧ GH h id x.2.2.2) (fun _ => 0)
/-- behind the choice of the operation: the operation, the seed's rest, the heap -/
def vtCut (id : Nat) (dp vs : Int) (h : Heap) : Inv' := atX (Int × Int × Heap) (fun x => [(0, .v (.ptr id 0)), (2, .v (.int .i64 dp)), (3, .v (.int .i64 vs)), (4, .v (.bool false)), (10, .l 10 0), (13, .v (.int .i64 x.2.1)), (14, .l 14 0)]) (fun x => [(10, [.int .i64 0, .int .i64 0, .int .i64 0, .int .i64 0, .nilslice]), (14, [.int .i64 0, .int .i64 x.1, .int .i64 0, .int .i64 0, .nilslice])]) (fun x => x.2.2) (fun x => dp ≤ 2 ∧ (4 ≤ x.1 ∧ x.1 ≤ 22) ∧ (0 ≤ x.2.1 ∧ x.2.1 < 1000) ∧ GH h id x.2.2) (fun _ => 0)
/-- at the loop's head: no operand so far, or some -/
def vtInv (id : Nat) (dp vs : Int) (h : Heap) : Inv' := .or
  (atX (Int × Int × Heap) (fun x => [(0, .v (.ptr id 0)), (2, .v (.int .i64 dp)), (3, .v (.int .i64 vs)), (4, .v (.bool false)), (10, .l 10 0), (13, .v (.int .i64 x.2.1)), (14, .l 14 0), (15, .v (.int .i64 (ar x.1))), (17, .v (.int .i64 0))]) (fun x => [(10, [.int .i64 0, .int .i64 0, .int .i64 0, .int .i64 0, .nilslice]), (14, [.int .i64 0, .int .i64 x.1, .int .i64 0, .int .i64 0, .nilslice])]) (fun x => x.2.2) (fun x => dp ≤ 2 ∧ (4 ≤ x.1 ∧ x.1 ≤ 22) ∧ (0 ≤ x.2.1 ∧ x.2.1 < 1000) ∧ GH h id x.2.2) (fun x => (ar x.1).toNat))
  (atX (Int × Int × Heap × List T × Nat) (fun x => [(0, .v (.ptr id 0)), (2, .v (.int .i64 dp)), (3, .v (.int .i64 vs)), (4, .v (.bool false)), (10, .l 10 0), (13, .v (.int .i64 x.2.1)), (14, .l 14 0), (15, .v (.int .i64 (ar x.1))), (17, .v (.int .i64 x.2.2.2.1.length))]) (fun x => [(10, [.int .i64 0, .int .i64 0, .int .i64 0, .int .i64 0, .nilslice]), (14, [.int .i64 0, .int .i64 x.1, .int .i64 0, .int .i64 0, .vslice (some x.2.2.2.2) (x.2.2.2.1.length * 5) x.2.2.2.1.length 5 (cTs x.2.2.2.1)])]) (fun x => x.2.2.1)
    (fun x => dp ≤ 2 ∧ (4 ≤ x.1 ∧ x.1 ≤ 22) ∧ (0 ≤ x.2.1 ∧ x.2.1 < 1000) ∧ GH h id x.2.2.1 ∧ (x.2.2.1.get x.2.2.2.2 = .tip (x.2.2.2.1.length * 5) ∧ x.2.2.2.2 < x.2.2.1.next ∧ x.2.2.2.2 ≠ id ∧ h.next ≤ x.2.2.2.2) ∧ (0 < x.2.2.2.1.length ∧ (x.2.2.2.1.length : Int) ≤ ar x.1) ∧ (oks x.2.2.2.1 ∧ vos x.2.2.2.1) ∧ nums x.2.2.2.1 ≤ x.2.2.2.1.length * bnd (2 - dp).toNat) (fun x => (ar x.1).toNat - x.2.2.2.1.length))
def kVPat (d : Nat) (xs : List IV) (h : Heap) (K : IV → Heap → Prop) : Prop := match xs with
  | [.ptr id 0, .int .i64 s, .int .i64 dp, .int .i64 vs, .bool st] => (s = 1 ∧ st = false) ∧ RD h id ∧ (0 ≤ dp ∧ dp ≤ 3 ∧ 3 - dp < (d : Int)) ∧ (1 ≤ vs ∧ vs ≤ 4) ∧
   (∀ (v op im iv : Int) (h2 : Heap), (i64b v ∧ i64b op ∧ i64b im ∧ i64b iv) → (T.mk v op im iv []).vo → GH h id h2 → K (.agg [.int .i64 v, .int .i64 op, .int .i64 im, .int .i64 iv, .nilslice]) h2) ∧
   (∀ (v op im iv : Int) (ks : List T) (io : Option Nat) (e : Nat) (h2 : Heap), (i64b v ∧ i64b op ∧ i64b im ∧ i64b iv) → oks ks → nums ks + 1 ≤ bnd (3 - dp).toNat → (T.mk v op im iv ks).vo → GH h id h2 →
      K (.agg [.int .i64 v, .int .i64 op, .int .i64 im, .int .i64 iv, .vslice io e ks.length 5 (cTs ks)]) h2)
  | _ => False
set_option maxRecDepth 100000 in
theorem vVPat (dd : Nat) (id : Nat) (dp vs : Int) (h : Heap) (Q : IV → Heap → Prop) : dF (stdS (addC 30 (kVPat dd) cNodes)) env 30 noU (ic1 20 (vtInv id dp vs h)) (icS (icA 6 (vtCut0 id dp vs h) (ic1 18 (vtCut id dp vs h)))) [.ptr id 0, .int .i64 1, .int .i64 dp, .int .i64 vs, .bool false] h Q = (
  (RD h id ∧
 ∀ (n : Int) (h2 : Heap),
 i64b n →
 RD h2 id →
 HF id h h2 →
 ((0 : Int) < (12 : Int) ∧ (12 : Int) < (4611686018427387904 : Int)) ∧
 ((0 : Int) < (1000 : Int) ∧ (1000 : Int) < (4611686018427387904 : Int)) ∧
 brS (decide (dp > (2 : Int)))
 (∃ (x : Int × Int × Bool × Heap),
 some (TV.v (IV.ptr id (0 : Nat))) = some (TV.v (IV.ptr id (0 : Nat))) ∧
 some (TV.v (IV.int IntKind.i64 (1 : Int))) = some (TV.v (IV.int IntKind.i64 (1 : Int))) ∧
 some (TV.v (IV.int IntKind.i64 dp)) = some (TV.v (IV.int IntKind.i64 dp)) ∧
 some (TV.v (IV.int IntKind.i64 vs)) = some (TV.v (IV.int IntKind.i64 vs)) ∧
 some (TV.v (IV.bool false)) = some (TV.v (IV.bool false)) ∧
 some (TV.l (10 : Nat) (0 : Nat)) = some (TV.l (10 : Nat) (0 : Nat)) ∧
 some (TV.v (IV.int IntKind.i64 n)) = some (TV.v (IV.int IntKind.i64 (Prod.fst x))) ∧
 some (TV.v (IV.int IntKind.i64 (n % (12 : Int)))) = some (TV.v (IV.int IntKind.i64 (Prod.fst x % (12 : Int)))) ∧
 some (TV.v (IV.int IntKind.i64 (IntKind.wrap IntKind.i64 (Int.tdiv n (12 : Int)) % (1000 : Int)))) = some (TV.v (IV.int IntKind.i64 (Prod.fst (Prod.snd x)))) ∧
 some (TV.v (IV.bool true)) = some (TV.v (IV.bool (Prod.fst (Prod.snd (Prod.snd x))))) ∧
 some [IV.int IntKind.i64 (0 : Int), IV.int IntKind.i64 (0 : Int), IV.int IntKind.i64 (0 : Int), IV.int IntKind.i64 (0 : Int), IV.nilslice] =
 some [IV.int IntKind.i64 (0 : Int), IV.int IntKind.i64 (0 : Int), IV.int IntKind.i64 (0 : Int), IV.int IntKind.i64 (0 : Int), IV.nilslice] ∧
 h2 = Prod.snd (Prod.snd (Prod.snd x)) ∧
 (i64b (Prod.fst x) ∧
 ((0 : Int) ≤ Prod.fst (Prod.snd x) ∧ Prod.fst (Prod.snd x) < (1000 : Int)) ∧ (Prod.fst (Prod.snd (Prod.snd x)) = false → dp ≤ (2 : Int)) ∧ GH h id (Prod.snd (Prod.snd (Prod.snd x)))) ∧
 True)
 (∃ (x : Int × Int × Bool × Heap),
 some (TV.v (IV.ptr id (0 : Nat))) = some (TV.v (IV.ptr id (0 : Nat))) ∧
 some (TV.v (IV.int IntKind.i64 (1 : Int))) = some (TV.v (IV.int IntKind.i64 (1 : Int))) ∧
 some (TV.v (IV.int IntKind.i64 dp)) = some (TV.v (IV.int IntKind.i64 dp)) ∧
 some (TV.v (IV.int IntKind.i64 vs)) = some (TV.v (IV.int IntKind.i64 vs)) ∧
 some (TV.v (IV.bool false)) = some (TV.v (IV.bool false)) ∧
 some (TV.l (10 : Nat) (0 : Nat)) = some (TV.l (10 : Nat) (0 : Nat)) ∧
 some (TV.v (IV.int IntKind.i64 n)) = some (TV.v (IV.int IntKind.i64 (Prod.fst x))) ∧
 some (TV.v (IV.int IntKind.i64 (n % (12 : Int)))) = some (TV.v (IV.int IntKind.i64 (Prod.fst x % (12 : Int)))) ∧
 some (TV.v (IV.int IntKind.i64 (IntKind.wrap IntKind.i64 (Int.tdiv n (12 : Int)) % (1000 : Int)))) = some (TV.v (IV.int IntKind.i64 (Prod.fst (Prod.snd x)))) ∧
 some (TV.v (IV.bool (decide (n % (12 : Int) < (3 : Int))))) = some (TV.v (IV.bool (Prod.fst (Prod.snd (Prod.snd x))))) ∧
 some [IV.int IntKind.i64 (0 : Int), IV.int IntKind.i64 (0 : Int), IV.int IntKind.i64 (0 : Int), IV.int IntKind.i64 (0 : Int), IV.nilslice] =
 some [IV.int IntKind.i64 (0 : Int), IV.int IntKind.i64 (0 : Int), IV.int IntKind.i64 (0 : Int), IV.int IntKind.i64 (0 : Int), IV.nilslice] ∧
 h2 = Prod.snd (Prod.snd (Prod.snd x)) ∧
 (i64b (Prod.fst x) ∧
 ((0 : Int) ≤ Prod.fst (Prod.snd x) ∧ Prod.fst (Prod.snd x) < (1000 : Int)) ∧ (Prod.fst (Prod.snd (Prod.snd x)) = false → dp ≤ (2 : Int)) ∧ GH h id (Prod.snd (Prod.snd (Prod.snd x)))) ∧
 True) ∧
 ∀ (x : Int × Int × Bool × Heap) (b : FF),
 i64b (Prod.fst x) ∧ ((0 : Int) ≤ Prod.fst (Prod.snd x) ∧ Prod.fst (Prod.snd x) < (1000 : Int)) ∧ (Prod.fst (Prod.snd (Prod.snd x)) = false → dp ≤ (2 : Int)) ∧ GH h id (Prod.snd (Prod.snd (Prod.snd x))) →
 brS (Prod.fst (Prod.snd (Prod.snd x)))
 (brS (Prod.fst x % (12 : Int) == (0 : Int))
 (brS (decide (dp > (0 : Int)))
 (i64b (Prod.fst x) ∧
 ∀ (w : Int), i64b w → Q (IV.agg [IV.int IntKind.i64 (0 : Int), IV.int IntKind.i64 (1 : Int), IV.int IntKind.i64 w, IV.int IntKind.i64 (0 : Int), IV.nilslice]) (Prod.snd (Prod.snd (Prod.snd x))))
 (needS (!vs == (0 : Int))
 (Q
 (IV.agg
 [IV.int IntKind.i64 (IntKind.wrap IntKind.i64 ((1 : Int) + Int.tmod (Prod.fst (Prod.snd x)) vs)), IV.int IntKind.i64 (0 : Int), IV.int IntKind.i64 (0 : Int), IV.int IntKind.i64 (0 : Int), IV.nilslice])
 (Prod.snd (Prod.snd (Prod.snd x))))))
 (needS (!vs == (0 : Int))
 (Q (IV.agg [IV.int IntKind.i64 (IntKind.wrap IntKind.i64 ((1 : Int) + Int.tmod (Prod.fst (Prod.snd x)) vs)), IV.int IntKind.i64 (0 : Int), IV.int IntKind.i64 (0 : Int), IV.int IntKind.i64 (0 : Int), IV.nilslice])
 (Prod.snd (Prod.snd (Prod.snd x))))))
 (∃ (x_1 : Int × Int × Heap),
 some (TV.v (IV.ptr id (0 : Nat))) = some (TV.v (IV.ptr id (0 : Nat))) ∧
 some (TV.v (IV.int IntKind.i64 dp)) = some (TV.v (IV.int IntKind.i64 dp)) ∧
 some (TV.v (IV.int IntKind.i64 vs)) = some (TV.v (IV.int IntKind.i64 vs)) ∧
 some (TV.v (IV.bool false)) = some (TV.v (IV.bool false)) ∧
 some (TV.l (10 : Nat) (0 : Nat)) = some (TV.l (10 : Nat) (0 : Nat)) ∧
 some (TV.v (IV.int IntKind.i64 (Prod.fst (Prod.snd x)))) = some (TV.v (IV.int IntKind.i64 (Prod.fst (Prod.snd x_1)))) ∧
 some (TV.l (14 : Nat) (0 : Nat)) = some (TV.l (14 : Nat) (0 : Nat)) ∧
 some [IV.int IntKind.i64 (0 : Int), IV.int IntKind.i64 (0 : Int), IV.int IntKind.i64 (0 : Int), IV.int IntKind.i64 (0 : Int), IV.nilslice] =
 some [IV.int IntKind.i64 (0 : Int), IV.int IntKind.i64 (0 : Int), IV.int IntKind.i64 (0 : Int), IV.int IntKind.i64 (0 : Int), IV.nilslice] ∧
 some
 [IV.int IntKind.i64 (0 : Int), IV.int IntKind.i64 (IntKind.wrap IntKind.i64 ((4 : Int) + Int.tmod (Prod.fst (Prod.snd x)) (19 : Int))), IV.int IntKind.i64 (0 : Int),
 IV.int IntKind.i64 (0 : Int), IV.nilslice] =
 some [IV.int IntKind.i64 (0 : Int), IV.int IntKind.i64 (Prod.fst x_1), IV.int IntKind.i64 (0 : Int), IV.int IntKind.i64 (0 : Int), IV.nilslice] ∧
 Prod.snd (Prod.snd (Prod.snd x)) = Prod.snd (Prod.snd x_1) ∧
 (dp ≤ (2 : Int) ∧ ((4 : Int) ≤ Prod.fst x_1 ∧ Prod.fst x_1 ≤ (22 : Int)) ∧ ((0 : Int) ≤ Prod.fst (Prod.snd x_1) ∧ Prod.fst (Prod.snd x_1) < (1000 : Int)) ∧ GH h id (Prod.snd (Prod.snd x_1))) ∧
 True)) ∧
 (∀ (x : Int × Int × Heap) (b : FF),
 dp ≤ (2 : Int) ∧ ((4 : Int) ≤ Prod.fst x ∧ Prod.fst x ≤ (22 : Int)) ∧ ((0 : Int) ≤ Prod.fst (Prod.snd x) ∧ Prod.fst (Prod.snd x) < (1000 : Int)) ∧ GH h id (Prod.snd (Prod.snd x)) →
 ((∃ (x_1 : Int × Int × Heap),
 some (TV.v (IV.ptr id (0 : Nat))) = some (TV.v (IV.ptr id (0 : Nat))) ∧
 some (TV.v (IV.int IntKind.i64 dp)) = some (TV.v (IV.int IntKind.i64 dp)) ∧
 some (TV.v (IV.int IntKind.i64 vs)) = some (TV.v (IV.int IntKind.i64 vs)) ∧
 some (TV.v (IV.bool false)) = some (TV.v (IV.bool false)) ∧
 some (TV.l (10 : Nat) (0 : Nat)) = some (TV.l (10 : Nat) (0 : Nat)) ∧
 some (TV.v (IV.int IntKind.i64 (Prod.fst (Prod.snd x)))) = some (TV.v (IV.int IntKind.i64 (Prod.fst (Prod.snd x_1)))) ∧
 some (TV.l (14 : Nat) (0 : Nat)) = some (TV.l (14 : Nat) (0 : Nat)) ∧
 some (TV.v (IV.int IntKind.i64 (ar (Prod.fst x)))) = some (TV.v (IV.int IntKind.i64 (ar (Prod.fst x_1)))) ∧
 some (TV.v (IV.int IntKind.i64 (0 : Int))) = some (TV.v (IV.int IntKind.i64 (0 : Int))) ∧
 some [IV.int IntKind.i64 (0 : Int), IV.int IntKind.i64 (0 : Int), IV.int IntKind.i64 (0 : Int), IV.int IntKind.i64 (0 : Int), IV.nilslice] =
 some [IV.int IntKind.i64 (0 : Int), IV.int IntKind.i64 (0 : Int), IV.int IntKind.i64 (0 : Int), IV.int IntKind.i64 (0 : Int), IV.nilslice] ∧
 some [IV.int IntKind.i64 (0 : Int), IV.int IntKind.i64 (Prod.fst x), IV.int IntKind.i64 (0 : Int), IV.int IntKind.i64 (0 : Int), IV.nilslice] =
 some [IV.int IntKind.i64 (0 : Int), IV.int IntKind.i64 (Prod.fst x_1), IV.int IntKind.i64 (0 : Int), IV.int IntKind.i64 (0 : Int), IV.nilslice] ∧
 Prod.snd (Prod.snd x) = Prod.snd (Prod.snd x_1) ∧
 (dp ≤ (2 : Int) ∧ ((4 : Int) ≤ Prod.fst x_1 ∧ Prod.fst x_1 ≤ (22 : Int)) ∧ ((0 : Int) ≤ Prod.fst (Prod.snd x_1) ∧ Prod.fst (Prod.snd x_1) < (1000 : Int)) ∧ GH h id (Prod.snd (Prod.snd x_1))) ∧ True) ∨
 ∃ (x_1 : Int × Int × Heap × List T × Nat),
 some (TV.v (IV.ptr id (0 : Nat))) = some (TV.v (IV.ptr id (0 : Nat))) ∧
 some (TV.v (IV.int IntKind.i64 dp)) = some (TV.v (IV.int IntKind.i64 dp)) ∧
 some (TV.v (IV.int IntKind.i64 vs)) = some (TV.v (IV.int IntKind.i64 vs)) ∧
 some (TV.v (IV.bool false)) = some (TV.v (IV.bool false)) ∧
 some (TV.l (10 : Nat) (0 : Nat)) = some (TV.l (10 : Nat) (0 : Nat)) ∧
 some (TV.v (IV.int IntKind.i64 (Prod.fst (Prod.snd x)))) = some (TV.v (IV.int IntKind.i64 (Prod.fst (Prod.snd x_1)))) ∧
 some (TV.l (14 : Nat) (0 : Nat)) = some (TV.l (14 : Nat) (0 : Nat)) ∧
 some (TV.v (IV.int IntKind.i64 (ar (Prod.fst x)))) = some (TV.v (IV.int IntKind.i64 (ar (Prod.fst x_1)))) ∧
 some (TV.v (IV.int IntKind.i64 (0 : Int))) = some (TV.v (IV.int IntKind.i64 (↑(List.length (Prod.fst (Prod.snd (Prod.snd (Prod.snd x_1))))) : Int))) ∧
 some [IV.int IntKind.i64 (0 : Int), IV.int IntKind.i64 (0 : Int), IV.int IntKind.i64 (0 : Int), IV.int IntKind.i64 (0 : Int), IV.nilslice] =
 some [IV.int IntKind.i64 (0 : Int), IV.int IntKind.i64 (0 : Int), IV.int IntKind.i64 (0 : Int), IV.int IntKind.i64 (0 : Int), IV.nilslice] ∧
 some [IV.int IntKind.i64 (0 : Int), IV.int IntKind.i64 (Prod.fst x), IV.int IntKind.i64 (0 : Int), IV.int IntKind.i64 (0 : Int), IV.nilslice] =
 some
 [IV.int IntKind.i64 (0 : Int), IV.int IntKind.i64 (Prod.fst x_1), IV.int IntKind.i64 (0 : Int), IV.int IntKind.i64 (0 : Int),
 IV.vslice (some (Prod.snd (Prod.snd (Prod.snd (Prod.snd x_1))))) (List.length (Prod.fst (Prod.snd (Prod.snd (Prod.snd x_1)))) * (5 : Nat))
 (List.length (Prod.fst (Prod.snd (Prod.snd (Prod.snd x_1))))) (5 : Nat) (cTs (Prod.fst (Prod.snd (Prod.snd (Prod.snd x_1)))))] ∧
 Prod.snd (Prod.snd x) = Prod.fst (Prod.snd (Prod.snd x_1)) ∧
 (dp ≤ (2 : Int) ∧
 ((4 : Int) ≤ Prod.fst x_1 ∧ Prod.fst x_1 ≤ (22 : Int)) ∧
 ((0 : Int) ≤ Prod.fst (Prod.snd x_1) ∧ Prod.fst (Prod.snd x_1) < (1000 : Int)) ∧
 GH h id (Prod.fst (Prod.snd (Prod.snd x_1))) ∧
 (Heap.get (Prod.fst (Prod.snd (Prod.snd x_1))) (Prod.snd (Prod.snd (Prod.snd (Prod.snd x_1)))) = IObj.tip (List.length (Prod.fst (Prod.snd (Prod.snd (Prod.snd x_1)))) * (5 : Nat)) ∧
 Prod.snd (Prod.snd (Prod.snd (Prod.snd x_1))) < Heap.next (Prod.fst (Prod.snd (Prod.snd x_1))) ∧
 Prod.snd (Prod.snd (Prod.snd (Prod.snd x_1))) ≠ id ∧ Heap.next h ≤ Prod.snd (Prod.snd (Prod.snd (Prod.snd x_1)))) ∧
 ((0 : Nat) < List.length (Prod.fst (Prod.snd (Prod.snd (Prod.snd x_1)))) ∧ (↑(List.length (Prod.fst (Prod.snd (Prod.snd (Prod.snd x_1))))) : Int) ≤ ar (Prod.fst x_1)) ∧
 (oks (Prod.fst (Prod.snd (Prod.snd (Prod.snd x_1)))) ∧ vos (Prod.fst (Prod.snd (Prod.snd (Prod.snd x_1))))) ∧
 nums (Prod.fst (Prod.snd (Prod.snd (Prod.snd x_1)))) ≤ List.length (Prod.fst (Prod.snd (Prod.snd (Prod.snd x_1)))) * bnd (Int.toNat ((2 : Int) - dp))) ∧
 True) ∧
 (∀ (x : Int × Int × Heap) (b : FF),
 dp ≤ (2 : Int) ∧ ((4 : Int) ≤ Prod.fst x ∧ Prod.fst x ≤ (22 : Int)) ∧ ((0 : Int) ≤ Prod.fst (Prod.snd x) ∧ Prod.fst (Prod.snd x) < (1000 : Int)) ∧ GH h id (Prod.snd (Prod.snd x)) →
 brS (decide ((0 : Int) < ar (Prod.fst x)))
 ((osort (Prod.fst x) (0 : Int) = (1 : Int) ∧ false = false) ∧
 RD (Prod.snd (Prod.snd x)) id ∧
 ((0 : Int) ≤ IntKind.wrap IntKind.i64 (dp + (1 : Int)) ∧ IntKind.wrap IntKind.i64 (dp + (1 : Int)) ≤ (3 : Int) ∧ (3 : Int) - IntKind.wrap IntKind.i64 (dp + (1 : Int)) < (↑dd : Int)) ∧
 ((1 : Int) ≤ vs ∧ vs ≤ (4 : Int)) ∧
 (∀ (v op im iv : Int) (h2 : Heap),
 i64b v ∧ i64b op ∧ i64b im ∧ i64b iv →
 T.vo (T.mk v op im iv []) →
 GH (Prod.snd (Prod.snd x)) id h2 →
 (∃ (x_1 : Int × Int × Heap),
 some (TV.v (IV.ptr id (0 : Nat))) = some (TV.v (IV.ptr id (0 : Nat))) ∧
 some (TV.v (IV.int IntKind.i64 dp)) = some (TV.v (IV.int IntKind.i64 dp)) ∧
 some (TV.v (IV.int IntKind.i64 vs)) = some (TV.v (IV.int IntKind.i64 vs)) ∧
 some (TV.v (IV.bool false)) = some (TV.v (IV.bool false)) ∧
 some (TV.l (10 : Nat) (0 : Nat)) = some (TV.l (10 : Nat) (0 : Nat)) ∧
 some (TV.v (IV.int IntKind.i64 (Prod.fst (Prod.snd x)))) = some (TV.v (IV.int IntKind.i64 (Prod.fst (Prod.snd x_1)))) ∧
 some (TV.l (14 : Nat) (0 : Nat)) = some (TV.l (14 : Nat) (0 : Nat)) ∧
 some (TV.v (IV.int IntKind.i64 (ar (Prod.fst x)))) = some (TV.v (IV.int IntKind.i64 (ar (Prod.fst x_1)))) ∧
 some (TV.v (IV.int IntKind.i64 (1 : Int))) = some (TV.v (IV.int IntKind.i64 (0 : Int))) ∧
 some [IV.int IntKind.i64 (0 : Int), IV.int IntKind.i64 (0 : Int), IV.int IntKind.i64 (0 : Int), IV.int IntKind.i64 (0 : Int), IV.nilslice] =
 some [IV.int IntKind.i64 (0 : Int), IV.int IntKind.i64 (0 : Int), IV.int IntKind.i64 (0 : Int), IV.int IntKind.i64 (0 : Int), IV.nilslice] ∧
 some
 [IV.int IntKind.i64 (0 : Int), IV.int IntKind.i64 (Prod.fst x), IV.int IntKind.i64 (0 : Int), IV.int IntKind.i64 (0 : Int),
 IV.vslice (some (Heap.next h2)) (5 : Nat) (1 : Nat) (5 : Nat)
 [IV.int IntKind.i64 v, IV.int IntKind.i64 op, IV.int IntKind.i64 im, IV.int IntKind.i64 iv, IV.vslice none (0 : Nat) (0 : Nat) (5 : Nat) []]] =
 some [IV.int IntKind.i64 (0 : Int), IV.int IntKind.i64 (Prod.fst x_1), IV.int IntKind.i64 (0 : Int), IV.int IntKind.i64 (0 : Int), IV.nilslice] ∧
 Heap.push h2 (IObj.tip (5 : Nat)) = Prod.snd (Prod.snd x_1) ∧
 (dp ≤ (2 : Int) ∧
 ((4 : Int) ≤ Prod.fst x_1 ∧ Prod.fst x_1 ≤ (22 : Int)) ∧
 ((0 : Int) ≤ Prod.fst (Prod.snd x_1) ∧ Prod.fst (Prod.snd x_1) < (1000 : Int)) ∧ GH h id (Prod.snd (Prod.snd x_1))) ∧
 Int.toNat (ar (Prod.fst x_1)) < Int.toNat (ar (Prod.fst x))) ∨
 ∃ (x_1 : Int × Int × Heap × List T × Nat),
 some (TV.v (IV.ptr id (0 : Nat))) = some (TV.v (IV.ptr id (0 : Nat))) ∧
 some (TV.v (IV.int IntKind.i64 dp)) = some (TV.v (IV.int IntKind.i64 dp)) ∧
 some (TV.v (IV.int IntKind.i64 vs)) = some (TV.v (IV.int IntKind.i64 vs)) ∧
 some (TV.v (IV.bool false)) = some (TV.v (IV.bool false)) ∧
 some (TV.l (10 : Nat) (0 : Nat)) = some (TV.l (10 : Nat) (0 : Nat)) ∧
 some (TV.v (IV.int IntKind.i64 (Prod.fst (Prod.snd x)))) = some (TV.v (IV.int IntKind.i64 (Prod.fst (Prod.snd x_1)))) ∧
 some (TV.l (14 : Nat) (0 : Nat)) = some (TV.l (14 : Nat) (0 : Nat)) ∧
 some (TV.v (IV.int IntKind.i64 (ar (Prod.fst x)))) = some (TV.v (IV.int IntKind.i64 (ar (Prod.fst x_1)))) ∧
 some (TV.v (IV.int IntKind.i64 (1 : Int))) = some (TV.v (IV.int IntKind.i64 (↑(List.length (Prod.fst (Prod.snd (Prod.snd (Prod.snd x_1))))) : Int))) ∧
 some [IV.int IntKind.i64 (0 : Int), IV.int IntKind.i64 (0 : Int), IV.int IntKind.i64 (0 : Int), IV.int IntKind.i64 (0 : Int), IV.nilslice] =
 some [IV.int IntKind.i64 (0 : Int), IV.int IntKind.i64 (0 : Int), IV.int IntKind.i64 (0 : Int), IV.int IntKind.i64 (0 : Int), IV.nilslice] ∧
 some
 [IV.int IntKind.i64 (0 : Int), IV.int IntKind.i64 (Prod.fst x), IV.int IntKind.i64 (0 : Int), IV.int IntKind.i64 (0 : Int),
 IV.vslice (some (Heap.next h2)) (5 : Nat) (1 : Nat) (5 : Nat)
 [IV.int IntKind.i64 v, IV.int IntKind.i64 op, IV.int IntKind.i64 im, IV.int IntKind.i64 iv, IV.vslice none (0 : Nat) (0 : Nat) (5 : Nat) []]] =
 some
 [IV.int IntKind.i64 (0 : Int), IV.int IntKind.i64 (Prod.fst x_1), IV.int IntKind.i64 (0 : Int), IV.int IntKind.i64 (0 : Int),
 IV.vslice (some (Prod.snd (Prod.snd (Prod.snd (Prod.snd x_1))))) (List.length (Prod.fst (Prod.snd (Prod.snd (Prod.snd x_1)))) * (5 : Nat))
 (List.length (Prod.fst (Prod.snd (Prod.snd (Prod.snd x_1))))) (5 : Nat) (cTs (Prod.fst (Prod.snd (Prod.snd (Prod.snd x_1)))))] ∧
 Heap.push h2 (IObj.tip (5 : Nat)) = Prod.fst (Prod.snd (Prod.snd x_1)) ∧
 (dp ≤ (2 : Int) ∧
 ((4 : Int) ≤ Prod.fst x_1 ∧ Prod.fst x_1 ≤ (22 : Int)) ∧
 ((0 : Int) ≤ Prod.fst (Prod.snd x_1) ∧ Prod.fst (Prod.snd x_1) < (1000 : Int)) ∧
 GH h id (Prod.fst (Prod.snd (Prod.snd x_1))) ∧
 (Heap.get (Prod.fst (Prod.snd (Prod.snd x_1))) (Prod.snd (Prod.snd (Prod.snd (Prod.snd x_1)))) =
 IObj.tip (List.length (Prod.fst (Prod.snd (Prod.snd (Prod.snd x_1)))) * (5 : Nat)) ∧
 Prod.snd (Prod.snd (Prod.snd (Prod.snd x_1))) < Heap.next (Prod.fst (Prod.snd (Prod.snd x_1))) ∧
 Prod.snd (Prod.snd (Prod.snd (Prod.snd x_1))) ≠ id ∧ Heap.next h ≤ Prod.snd (Prod.snd (Prod.snd (Prod.snd x_1)))) ∧
 ((0 : Nat) < List.length (Prod.fst (Prod.snd (Prod.snd (Prod.snd x_1)))) ∧
 (↑(List.length (Prod.fst (Prod.snd (Prod.snd (Prod.snd x_1))))) : Int) ≤ ar (Prod.fst x_1)) ∧
 (oks (Prod.fst (Prod.snd (Prod.snd (Prod.snd x_1)))) ∧ vos (Prod.fst (Prod.snd (Prod.snd (Prod.snd x_1))))) ∧
 nums (Prod.fst (Prod.snd (Prod.snd (Prod.snd x_1)))) ≤ List.length (Prod.fst (Prod.snd (Prod.snd (Prod.snd x_1)))) * bnd (Int.toNat ((2 : Int) - dp))) ∧
 Int.toNat (ar (Prod.fst x_1)) - List.length (Prod.fst (Prod.snd (Prod.snd (Prod.snd x_1)))) < Int.toNat (ar (Prod.fst x))) ∧
 ∀ (v op im iv : Int) (ks : List T) (io : Option Nat) (e : Nat) (h2 : Heap),
 i64b v ∧ i64b op ∧ i64b im ∧ i64b iv →
 oks ks →
 nums ks + (1 : Nat) ≤ bnd (Int.toNat ((3 : Int) - IntKind.wrap IntKind.i64 (dp + (1 : Int)))) →
 T.vo (T.mk v op im iv ks) →
 GH (Prod.snd (Prod.snd x)) id h2 →
 (∃ (x_1 : Int × Int × Heap),
 some (TV.v (IV.ptr id (0 : Nat))) = some (TV.v (IV.ptr id (0 : Nat))) ∧
 some (TV.v (IV.int IntKind.i64 dp)) = some (TV.v (IV.int IntKind.i64 dp)) ∧
 some (TV.v (IV.int IntKind.i64 vs)) = some (TV.v (IV.int IntKind.i64 vs)) ∧
 some (TV.v (IV.bool false)) = some (TV.v (IV.bool false)) ∧
 some (TV.l (10 : Nat) (0 : Nat)) = some (TV.l (10 : Nat) (0 : Nat)) ∧
 some (TV.v (IV.int IntKind.i64 (Prod.fst (Prod.snd x)))) = some (TV.v (IV.int IntKind.i64 (Prod.fst (Prod.snd x_1)))) ∧
 some (TV.l (14 : Nat) (0 : Nat)) = some (TV.l (14 : Nat) (0 : Nat)) ∧
 some (TV.v (IV.int IntKind.i64 (ar (Prod.fst x)))) = some (TV.v (IV.int IntKind.i64 (ar (Prod.fst x_1)))) ∧
 some (TV.v (IV.int IntKind.i64 (1 : Int))) = some (TV.v (IV.int IntKind.i64 (0 : Int))) ∧
 some [IV.int IntKind.i64 (0 : Int), IV.int IntKind.i64 (0 : Int), IV.int IntKind.i64 (0 : Int), IV.int IntKind.i64 (0 : Int), IV.nilslice] =
 some [IV.int IntKind.i64 (0 : Int), IV.int IntKind.i64 (0 : Int), IV.int IntKind.i64 (0 : Int), IV.int IntKind.i64 (0 : Int), IV.nilslice] ∧
 some
 [IV.int IntKind.i64 (0 : Int), IV.int IntKind.i64 (Prod.fst x), IV.int IntKind.i64 (0 : Int), IV.int IntKind.i64 (0 : Int),
 IV.vslice (some (Heap.next h2)) (5 : Nat) (1 : Nat) (5 : Nat)
 [IV.int IntKind.i64 v, IV.int IntKind.i64 op, IV.int IntKind.i64 im, IV.int IntKind.i64 iv, IV.vslice none (0 : Nat) (List.length ks) (5 : Nat) (cTs ks)]] =
 some [IV.int IntKind.i64 (0 : Int), IV.int IntKind.i64 (Prod.fst x_1), IV.int IntKind.i64 (0 : Int), IV.int IntKind.i64 (0 : Int), IV.nilslice] ∧
 Heap.push h2 (IObj.tip (5 : Nat)) = Prod.snd (Prod.snd x_1) ∧
 (dp ≤ (2 : Int) ∧
 ((4 : Int) ≤ Prod.fst x_1 ∧ Prod.fst x_1 ≤ (22 : Int)) ∧
 ((0 : Int) ≤ Prod.fst (Prod.snd x_1) ∧ Prod.fst (Prod.snd x_1) < (1000 : Int)) ∧ GH h id (Prod.snd (Prod.snd x_1))) ∧
 Int.toNat (ar (Prod.fst x_1)) < Int.toNat (ar (Prod.fst x))) ∨
 ∃ (x_1 : Int × Int × Heap × List T × Nat),
 some (TV.v (IV.ptr id (0 : Nat))) = some (TV.v (IV.ptr id (0 : Nat))) ∧
 some (TV.v (IV.int IntKind.i64 dp)) = some (TV.v (IV.int IntKind.i64 dp)) ∧
 some (TV.v (IV.int IntKind.i64 vs)) = some (TV.v (IV.int IntKind.i64 vs)) ∧
 some (TV.v (IV.bool false)) = some (TV.v (IV.bool false)) ∧
 some (TV.l (10 : Nat) (0 : Nat)) = some (TV.l (10 : Nat) (0 : Nat)) ∧
 some (TV.v (IV.int IntKind.i64 (Prod.fst (Prod.snd x)))) = some (TV.v (IV.int IntKind.i64 (Prod.fst (Prod.snd x_1)))) ∧
 some (TV.l (14 : Nat) (0 : Nat)) = some (TV.l (14 : Nat) (0 : Nat)) ∧
 some (TV.v (IV.int IntKind.i64 (ar (Prod.fst x)))) = some (TV.v (IV.int IntKind.i64 (ar (Prod.fst x_1)))) ∧
 some (TV.v (IV.int IntKind.i64 (1 : Int))) = some (TV.v (IV.int IntKind.i64 (↑(List.length (Prod.fst (Prod.snd (Prod.snd (Prod.snd x_1))))) : Int))) ∧
 some [IV.int IntKind.i64 (0 : Int), IV.int IntKind.i64 (0 : Int), IV.int IntKind.i64 (0 : Int), IV.int IntKind.i64 (0 : Int), IV.nilslice] =
 some [IV.int IntKind.i64 (0 : Int), IV.int IntKind.i64 (0 : Int), IV.int IntKind.i64 (0 : Int), IV.int IntKind.i64 (0 : Int), IV.nilslice] ∧
 some
 [IV.int IntKind.i64 (0 : Int), IV.int IntKind.i64 (Prod.fst x), IV.int IntKind.i64 (0 : Int), IV.int IntKind.i64 (0 : Int),
 IV.vslice (some (Heap.next h2)) (5 : Nat) (1 : Nat) (5 : Nat)
 [IV.int IntKind.i64 v, IV.int IntKind.i64 op, IV.int IntKind.i64 im, IV.int IntKind.i64 iv, IV.vslice none (0 : Nat) (List.length ks) (5 : Nat) (cTs ks)]] =
 some
 [IV.int IntKind.i64 (0 : Int), IV.int IntKind.i64 (Prod.fst x_1), IV.int IntKind.i64 (0 : Int), IV.int IntKind.i64 (0 : Int),
 IV.vslice (some (Prod.snd (Prod.snd (Prod.snd (Prod.snd x_1))))) (List.length (Prod.fst (Prod.snd (Prod.snd (Prod.snd x_1)))) * (5 : Nat))
 (List.length (Prod.fst (Prod.snd (Prod.snd (Prod.snd x_1))))) (5 : Nat) (cTs (Prod.fst (Prod.snd (Prod.snd (Prod.snd x_1)))))] ∧
 Heap.push h2 (IObj.tip (5 : Nat)) = Prod.fst (Prod.snd (Prod.snd x_1)) ∧
 (dp ≤ (2 : Int) ∧
 ((4 : Int) ≤ Prod.fst x_1 ∧ Prod.fst x_1 ≤ (22 : Int)) ∧
 ((0 : Int) ≤ Prod.fst (Prod.snd x_1) ∧ Prod.fst (Prod.snd x_1) < (1000 : Int)) ∧
 GH h id (Prod.fst (Prod.snd (Prod.snd x_1))) ∧
 (Heap.get (Prod.fst (Prod.snd (Prod.snd x_1))) (Prod.snd (Prod.snd (Prod.snd (Prod.snd x_1)))) =
 IObj.tip (List.length (Prod.fst (Prod.snd (Prod.snd (Prod.snd x_1)))) * (5 : Nat)) ∧
 Prod.snd (Prod.snd (Prod.snd (Prod.snd x_1))) < Heap.next (Prod.fst (Prod.snd (Prod.snd x_1))) ∧
 Prod.snd (Prod.snd (Prod.snd (Prod.snd x_1))) ≠ id ∧ Heap.next h ≤ Prod.snd (Prod.snd (Prod.snd (Prod.snd x_1)))) ∧
 ((0 : Nat) < List.length (Prod.fst (Prod.snd (Prod.snd (Prod.snd x_1)))) ∧
 (↑(List.length (Prod.fst (Prod.snd (Prod.snd (Prod.snd x_1))))) : Int) ≤ ar (Prod.fst x_1)) ∧
 (oks (Prod.fst (Prod.snd (Prod.snd (Prod.snd x_1)))) ∧ vos (Prod.fst (Prod.snd (Prod.snd (Prod.snd x_1))))) ∧
 nums (Prod.fst (Prod.snd (Prod.snd (Prod.snd x_1)))) ≤ List.length (Prod.fst (Prod.snd (Prod.snd (Prod.snd x_1)))) * bnd (Int.toNat ((2 : Int) - dp))) ∧
 Int.toNat (ar (Prod.fst x_1)) - List.length (Prod.fst (Prod.snd (Prod.snd (Prod.snd x_1)))) < Int.toNat (ar (Prod.fst x)))
 (brS (hasImm (Prod.fst x))
 (brS (Int.tmod (Prod.fst (Prod.snd x)) (5 : Int) == (0 : Int))
 (brS (Prod.fst x == (27 : Int)) (Q (IV.agg [IV.int IntKind.i64 (0 : Int), IV.int IntKind.i64 (Prod.fst x), IV.int IntKind.i64 (1 : Int), IV.int IntKind.i64 (0 : Int), IV.nilslice]) (Prod.snd (Prod.snd x)))
 (Q
 (IV.agg
 [IV.int IntKind.i64 (0 : Int), IV.int IntKind.i64 (Prod.fst x), IV.int IntKind.i64 (IntKind.wrap IntKind.i64 ((1 : Int) - Int.tmod (Prod.fst (Prod.snd x)) (2 : Int))), IV.int IntKind.i64 (0 : Int), IV.nilslice])
 (Prod.snd (Prod.snd x))))
 (Q
 (IV.agg
 [IV.int IntKind.i64 (0 : Int), IV.int IntKind.i64 (Prod.fst x), IV.int IntKind.i64 (0 : Int), IV.int IntKind.i64 (IntKind.wrap IntKind.i64 ((1 : Int) + Int.tmod (Prod.fst (Prod.snd x)) (2 : Int))), IV.nilslice])
 (Prod.snd (Prod.snd x))))
 (Q (IV.agg [IV.int IntKind.i64 (0 : Int), IV.int IntKind.i64 (Prod.fst x), IV.int IntKind.i64 (0 : Int), IV.int IntKind.i64 (0 : Int), IV.nilslice]) (Prod.snd (Prod.snd x))))) ∧
 ∀ (x : Int × Int × Heap × List T × Nat) (b : FF),
 dp ≤ (2 : Int) ∧
 ((4 : Int) ≤ Prod.fst x ∧ Prod.fst x ≤ (22 : Int)) ∧
 ((0 : Int) ≤ Prod.fst (Prod.snd x) ∧ Prod.fst (Prod.snd x) < (1000 : Int)) ∧
 GH h id (Prod.fst (Prod.snd (Prod.snd x))) ∧
 (Heap.get (Prod.fst (Prod.snd (Prod.snd x))) (Prod.snd (Prod.snd (Prod.snd (Prod.snd x)))) = IObj.tip (List.length (Prod.fst (Prod.snd (Prod.snd (Prod.snd x)))) * (5 : Nat)) ∧
 Prod.snd (Prod.snd (Prod.snd (Prod.snd x))) < Heap.next (Prod.fst (Prod.snd (Prod.snd x))) ∧ Prod.snd (Prod.snd (Prod.snd (Prod.snd x))) ≠ id ∧ Heap.next h ≤ Prod.snd (Prod.snd (Prod.snd (Prod.snd x)))) ∧
 ((0 : Nat) < List.length (Prod.fst (Prod.snd (Prod.snd (Prod.snd x)))) ∧ (↑(List.length (Prod.fst (Prod.snd (Prod.snd (Prod.snd x))))) : Int) ≤ ar (Prod.fst x)) ∧
 (oks (Prod.fst (Prod.snd (Prod.snd (Prod.snd x)))) ∧ vos (Prod.fst (Prod.snd (Prod.snd (Prod.snd x))))) ∧
 nums (Prod.fst (Prod.snd (Prod.snd (Prod.snd x)))) ≤ List.length (Prod.fst (Prod.snd (Prod.snd (Prod.snd x)))) * bnd (Int.toNat ((2 : Int) - dp)) →
 brS (decide ((↑(List.length (Prod.fst (Prod.snd (Prod.snd (Prod.snd x))))) : Int) < ar (Prod.fst x)))
 ((osort (Prod.fst x) (↑(List.length (Prod.fst (Prod.snd (Prod.snd (Prod.snd x))))) : Int) = (1 : Int) ∧ false = false) ∧
 RD (Prod.fst (Prod.snd (Prod.snd x))) id ∧
 ((0 : Int) ≤ IntKind.wrap IntKind.i64 (dp + (1 : Int)) ∧ IntKind.wrap IntKind.i64 (dp + (1 : Int)) ≤ (3 : Int) ∧ (3 : Int) - IntKind.wrap IntKind.i64 (dp + (1 : Int)) < (↑dd : Int)) ∧
 ((1 : Int) ≤ vs ∧ vs ≤ (4 : Int)) ∧
 (∀ (v op im iv : Int) (h2 : Heap),
 i64b v ∧ i64b op ∧ i64b im ∧ i64b iv →
 T.vo (T.mk v op im iv []) →
 GH (Prod.fst (Prod.snd (Prod.snd x))) id h2 →
 tipS h2 (Prod.snd (Prod.snd (Prod.snd (Prod.snd x)))) fun (m0 : Nat) =>
 needS
 (Nat.beq m0 (List.length (Prod.fst (Prod.snd (Prod.snd (Prod.snd x)))) * (5 : Nat)) &&
 Nat.ble ((List.length (Prod.fst (Prod.snd (Prod.snd (Prod.snd x)))) + (1 : Nat)) * (56 : Nat)) (140737488355328 : Nat))
 ((∃ (x_1 : Int × Int × Heap),
 some (TV.v (IV.ptr id (0 : Nat))) = some (TV.v (IV.ptr id (0 : Nat))) ∧
 some (TV.v (IV.int IntKind.i64 dp)) = some (TV.v (IV.int IntKind.i64 dp)) ∧
 some (TV.v (IV.int IntKind.i64 vs)) = some (TV.v (IV.int IntKind.i64 vs)) ∧
 some (TV.v (IV.bool false)) = some (TV.v (IV.bool false)) ∧
 some (TV.l (10 : Nat) (0 : Nat)) = some (TV.l (10 : Nat) (0 : Nat)) ∧
 some (TV.v (IV.int IntKind.i64 (Prod.fst (Prod.snd x)))) = some (TV.v (IV.int IntKind.i64 (Prod.fst (Prod.snd x_1)))) ∧
 some (TV.l (14 : Nat) (0 : Nat)) = some (TV.l (14 : Nat) (0 : Nat)) ∧
 some (TV.v (IV.int IntKind.i64 (ar (Prod.fst x)))) = some (TV.v (IV.int IntKind.i64 (ar (Prod.fst x_1)))) ∧
 some (TV.v (IV.int IntKind.i64 (IntKind.wrap IntKind.i64 ((↑(List.length (Prod.fst (Prod.snd (Prod.snd (Prod.snd x))))) : Int) + (1 : Int))))) =
 some (TV.v (IV.int IntKind.i64 (0 : Int))) ∧
 some [IV.int IntKind.i64 (0 : Int), IV.int IntKind.i64 (0 : Int), IV.int IntKind.i64 (0 : Int), IV.int IntKind.i64 (0 : Int), IV.nilslice] =
 some [IV.int IntKind.i64 (0 : Int), IV.int IntKind.i64 (0 : Int), IV.int IntKind.i64 (0 : Int), IV.int IntKind.i64 (0 : Int), IV.nilslice] ∧
 some
 [IV.int IntKind.i64 (0 : Int), IV.int IntKind.i64 (Prod.fst x), IV.int IntKind.i64 (0 : Int), IV.int IntKind.i64 (0 : Int),
 IV.vslice (some (Prod.snd (Prod.snd (Prod.snd (Prod.snd x))))) (List.length (Prod.fst (Prod.snd (Prod.snd (Prod.snd x)))) * (5 : Nat) + (5 : Nat))
 (List.length (Prod.fst (Prod.snd (Prod.snd (Prod.snd x)))) + (1 : Nat)) (5 : Nat)
 (cTs (Prod.fst (Prod.snd (Prod.snd (Prod.snd x)))) ++
 [IV.int IntKind.i64 v, IV.int IntKind.i64 op, IV.int IntKind.i64 im, IV.int IntKind.i64 iv, IV.vslice none (0 : Nat) (0 : Nat) (5 : Nat) []])] =
 some [IV.int IntKind.i64 (0 : Int), IV.int IntKind.i64 (Prod.fst x_1), IV.int IntKind.i64 (0 : Int), IV.int IntKind.i64 (0 : Int), IV.nilslice] ∧
 Heap.set h2 (Prod.snd (Prod.snd (Prod.snd (Prod.snd x)))) (IObj.tip (List.length (Prod.fst (Prod.snd (Prod.snd (Prod.snd x)))) * (5 : Nat) + (5 : Nat))) =
 Prod.snd (Prod.snd x_1) ∧
 (dp ≤ (2 : Int) ∧
 ((4 : Int) ≤ Prod.fst x_1 ∧ Prod.fst x_1 ≤ (22 : Int)) ∧
 ((0 : Int) ≤ Prod.fst (Prod.snd x_1) ∧ Prod.fst (Prod.snd x_1) < (1000 : Int)) ∧ GH h id (Prod.snd (Prod.snd x_1))) ∧
 Int.toNat (ar (Prod.fst x_1)) < Int.toNat (ar (Prod.fst x)) - List.length (Prod.fst (Prod.snd (Prod.snd (Prod.snd x))))) ∨
 ∃ (x_1 : Int × Int × Heap × List T × Nat),
 some (TV.v (IV.ptr id (0 : Nat))) = some (TV.v (IV.ptr id (0 : Nat))) ∧
 some (TV.v (IV.int IntKind.i64 dp)) = some (TV.v (IV.int IntKind.i64 dp)) ∧
 some (TV.v (IV.int IntKind.i64 vs)) = some (TV.v (IV.int IntKind.i64 vs)) ∧
 some (TV.v (IV.bool false)) = some (TV.v (IV.bool false)) ∧
 some (TV.l (10 : Nat) (0 : Nat)) = some (TV.l (10 : Nat) (0 : Nat)) ∧
 some (TV.v (IV.int IntKind.i64 (Prod.fst (Prod.snd x)))) = some (TV.v (IV.int IntKind.i64 (Prod.fst (Prod.snd x_1)))) ∧
 some (TV.l (14 : Nat) (0 : Nat)) = some (TV.l (14 : Nat) (0 : Nat)) ∧
 some (TV.v (IV.int IntKind.i64 (ar (Prod.fst x)))) = some (TV.v (IV.int IntKind.i64 (ar (Prod.fst x_1)))) ∧
 some (TV.v (IV.int IntKind.i64 (IntKind.wrap IntKind.i64 ((↑(List.length (Prod.fst (Prod.snd (Prod.snd (Prod.snd x))))) : Int) + (1 : Int))))) =
 some (TV.v (IV.int IntKind.i64 (↑(List.length (Prod.fst (Prod.snd (Prod.snd (Prod.snd x_1))))) : Int))) ∧
 some [IV.int IntKind.i64 (0 : Int), IV.int IntKind.i64 (0 : Int), IV.int IntKind.i64 (0 : Int), IV.int IntKind.i64 (0 : Int), IV.nilslice] =
 some [IV.int IntKind.i64 (0 : Int), IV.int IntKind.i64 (0 : Int), IV.int IntKind.i64 (0 : Int), IV.int IntKind.i64 (0 : Int), IV.nilslice] ∧
 some
 [IV.int IntKind.i64 (0 : Int), IV.int IntKind.i64 (Prod.fst x), IV.int IntKind.i64 (0 : Int), IV.int IntKind.i64 (0 : Int),
 IV.vslice (some (Prod.snd (Prod.snd (Prod.snd (Prod.snd x))))) (List.length (Prod.fst (Prod.snd (Prod.snd (Prod.snd x)))) * (5 : Nat) + (5 : Nat))
 (List.length (Prod.fst (Prod.snd (Prod.snd (Prod.snd x)))) + (1 : Nat)) (5 : Nat)
 (cTs (Prod.fst (Prod.snd (Prod.snd (Prod.snd x)))) ++
 [IV.int IntKind.i64 v, IV.int IntKind.i64 op, IV.int IntKind.i64 im, IV.int IntKind.i64 iv, IV.vslice none (0 : Nat) (0 : Nat) (5 : Nat) []])] =
 some
 [IV.int IntKind.i64 (0 : Int), IV.int IntKind.i64 (Prod.fst x_1), IV.int IntKind.i64 (0 : Int), IV.int IntKind.i64 (0 : Int),
 IV.vslice (some (Prod.snd (Prod.snd (Prod.snd (Prod.snd x_1))))) (List.length (Prod.fst (Prod.snd (Prod.snd (Prod.snd x_1)))) * (5 : Nat))
 (List.length (Prod.fst (Prod.snd (Prod.snd (Prod.snd x_1))))) (5 : Nat) (cTs (Prod.fst (Prod.snd (Prod.snd (Prod.snd x_1)))))] ∧
 Heap.set h2 (Prod.snd (Prod.snd (Prod.snd (Prod.snd x)))) (IObj.tip (List.length (Prod.fst (Prod.snd (Prod.snd (Prod.snd x)))) * (5 : Nat) + (5 : Nat))) =
 Prod.fst (Prod.snd (Prod.snd x_1)) ∧
 (dp ≤ (2 : Int) ∧
 ((4 : Int) ≤ Prod.fst x_1 ∧ Prod.fst x_1 ≤ (22 : Int)) ∧
 ((0 : Int) ≤ Prod.fst (Prod.snd x_1) ∧ Prod.fst (Prod.snd x_1) < (1000 : Int)) ∧
 GH h id (Prod.fst (Prod.snd (Prod.snd x_1))) ∧
 (Heap.get (Prod.fst (Prod.snd (Prod.snd x_1))) (Prod.snd (Prod.snd (Prod.snd (Prod.snd x_1)))) =
 IObj.tip (List.length (Prod.fst (Prod.snd (Prod.snd (Prod.snd x_1)))) * (5 : Nat)) ∧
 Prod.snd (Prod.snd (Prod.snd (Prod.snd x_1))) < Heap.next (Prod.fst (Prod.snd (Prod.snd x_1))) ∧
 Prod.snd (Prod.snd (Prod.snd (Prod.snd x_1))) ≠ id ∧ Heap.next h ≤ Prod.snd (Prod.snd (Prod.snd (Prod.snd x_1)))) ∧
 ((0 : Nat) < List.length (Prod.fst (Prod.snd (Prod.snd (Prod.snd x_1)))) ∧
 (↑(List.length (Prod.fst (Prod.snd (Prod.snd (Prod.snd x_1))))) : Int) ≤ ar (Prod.fst x_1)) ∧
 (oks (Prod.fst (Prod.snd (Prod.snd (Prod.snd x_1)))) ∧ vos (Prod.fst (Prod.snd (Prod.snd (Prod.snd x_1))))) ∧
 nums (Prod.fst (Prod.snd (Prod.snd (Prod.snd x_1)))) ≤ List.length (Prod.fst (Prod.snd (Prod.snd (Prod.snd x_1)))) * bnd (Int.toNat ((2 : Int) - dp))) ∧
 Int.toNat (ar (Prod.fst x_1)) - List.length (Prod.fst (Prod.snd (Prod.snd (Prod.snd x_1)))) <
 Int.toNat (ar (Prod.fst x)) - List.length (Prod.fst (Prod.snd (Prod.snd (Prod.snd x)))))) ∧
 ∀ (v op im iv : Int) (ks : List T) (io : Option Nat) (e : Nat) (h2 : Heap),
 i64b v ∧ i64b op ∧ i64b im ∧ i64b iv →
 oks ks →
 nums ks + (1 : Nat) ≤ bnd (Int.toNat ((3 : Int) - IntKind.wrap IntKind.i64 (dp + (1 : Int)))) →
 T.vo (T.mk v op im iv ks) →
 GH (Prod.fst (Prod.snd (Prod.snd x))) id h2 →
 tipS h2 (Prod.snd (Prod.snd (Prod.snd (Prod.snd x)))) fun (m1 : Nat) =>
 needS
 (Nat.beq m1 (List.length (Prod.fst (Prod.snd (Prod.snd (Prod.snd x)))) * (5 : Nat)) &&
 Nat.ble ((List.length (Prod.fst (Prod.snd (Prod.snd (Prod.snd x)))) + (1 : Nat)) * (56 : Nat)) (140737488355328 : Nat))
 ((∃ (x_1 : Int × Int × Heap),
 some (TV.v (IV.ptr id (0 : Nat))) = some (TV.v (IV.ptr id (0 : Nat))) ∧
 some (TV.v (IV.int IntKind.i64 dp)) = some (TV.v (IV.int IntKind.i64 dp)) ∧
 some (TV.v (IV.int IntKind.i64 vs)) = some (TV.v (IV.int IntKind.i64 vs)) ∧
 some (TV.v (IV.bool false)) = some (TV.v (IV.bool false)) ∧
 some (TV.l (10 : Nat) (0 : Nat)) = some (TV.l (10 : Nat) (0 : Nat)) ∧
 some (TV.v (IV.int IntKind.i64 (Prod.fst (Prod.snd x)))) = some (TV.v (IV.int IntKind.i64 (Prod.fst (Prod.snd x_1)))) ∧
 some (TV.l (14 : Nat) (0 : Nat)) = some (TV.l (14 : Nat) (0 : Nat)) ∧
 some (TV.v (IV.int IntKind.i64 (ar (Prod.fst x)))) = some (TV.v (IV.int IntKind.i64 (ar (Prod.fst x_1)))) ∧
 some (TV.v (IV.int IntKind.i64 (IntKind.wrap IntKind.i64 ((↑(List.length (Prod.fst (Prod.snd (Prod.snd (Prod.snd x))))) : Int) + (1 : Int))))) =
 some (TV.v (IV.int IntKind.i64 (0 : Int))) ∧
 some [IV.int IntKind.i64 (0 : Int), IV.int IntKind.i64 (0 : Int), IV.int IntKind.i64 (0 : Int), IV.int IntKind.i64 (0 : Int), IV.nilslice] =
 some [IV.int IntKind.i64 (0 : Int), IV.int IntKind.i64 (0 : Int), IV.int IntKind.i64 (0 : Int), IV.int IntKind.i64 (0 : Int), IV.nilslice] ∧
 some
 [IV.int IntKind.i64 (0 : Int), IV.int IntKind.i64 (Prod.fst x), IV.int IntKind.i64 (0 : Int), IV.int IntKind.i64 (0 : Int),
 IV.vslice (some (Prod.snd (Prod.snd (Prod.snd (Prod.snd x))))) (List.length (Prod.fst (Prod.snd (Prod.snd (Prod.snd x)))) * (5 : Nat) + (5 : Nat))
 (List.length (Prod.fst (Prod.snd (Prod.snd (Prod.snd x)))) + (1 : Nat)) (5 : Nat)
 (cTs (Prod.fst (Prod.snd (Prod.snd (Prod.snd x)))) ++
 [IV.int IntKind.i64 v, IV.int IntKind.i64 op, IV.int IntKind.i64 im, IV.int IntKind.i64 iv, IV.vslice none (0 : Nat) (List.length ks) (5 : Nat) (cTs ks)])] =
 some [IV.int IntKind.i64 (0 : Int), IV.int IntKind.i64 (Prod.fst x_1), IV.int IntKind.i64 (0 : Int), IV.int IntKind.i64 (0 : Int), IV.nilslice] ∧
 Heap.set h2 (Prod.snd (Prod.snd (Prod.snd (Prod.snd x)))) (IObj.tip (List.length (Prod.fst (Prod.snd (Prod.snd (Prod.snd x)))) * (5 : Nat) + (5 : Nat))) =
 Prod.snd (Prod.snd x_1) ∧
 (dp ≤ (2 : Int) ∧
 ((4 : Int) ≤ Prod.fst x_1 ∧ Prod.fst x_1 ≤ (22 : Int)) ∧
 ((0 : Int) ≤ Prod.fst (Prod.snd x_1) ∧ Prod.fst (Prod.snd x_1) < (1000 : Int)) ∧ GH h id (Prod.snd (Prod.snd x_1))) ∧
 Int.toNat (ar (Prod.fst x_1)) < Int.toNat (ar (Prod.fst x)) - List.length (Prod.fst (Prod.snd (Prod.snd (Prod.snd x))))) ∨
 ∃ (x_1 : Int × Int × Heap × List T × Nat),
 some (TV.v (IV.ptr id (0 : Nat))) = some (TV.v (IV.ptr id (0 : Nat))) ∧
 some (TV.v (IV.int IntKind.i64 dp)) = some (TV.v (IV.int IntKind.i64 dp)) ∧
 some (TV.v (IV.int IntKind.i64 vs)) = some (TV.v (IV.int IntKind.i64 vs)) ∧
 some (TV.v (IV.bool false)) = some (TV.v (IV.bool false)) ∧
 some (TV.l (10 : Nat) (0 : Nat)) = some (TV.l (10 : Nat) (0 : Nat)) ∧
 some (TV.v (IV.int IntKind.i64 (Prod.fst (Prod.snd x)))) = some (TV.v (IV.int IntKind.i64 (Prod.fst (Prod.snd x_1)))) ∧
 some (TV.l (14 : Nat) (0 : Nat)) = some (TV.l (14 : Nat) (0 : Nat)) ∧
 some (TV.v (IV.int IntKind.i64 (ar (Prod.fst x)))) = some (TV.v (IV.int IntKind.i64 (ar (Prod.fst x_1)))) ∧
 some (TV.v (IV.int IntKind.i64 (IntKind.wrap IntKind.i64 ((↑(List.length (Prod.fst (Prod.snd (Prod.snd (Prod.snd x))))) : Int) + (1 : Int))))) =
 some (TV.v (IV.int IntKind.i64 (↑(List.length (Prod.fst (Prod.snd (Prod.snd (Prod.snd x_1))))) : Int))) ∧
 some [IV.int IntKind.i64 (0 : Int), IV.int IntKind.i64 (0 : Int), IV.int IntKind.i64 (0 : Int), IV.int IntKind.i64 (0 : Int), IV.nilslice] =
 some [IV.int IntKind.i64 (0 : Int), IV.int IntKind.i64 (0 : Int), IV.int IntKind.i64 (0 : Int), IV.int IntKind.i64 (0 : Int), IV.nilslice] ∧
 some
 [IV.int IntKind.i64 (0 : Int), IV.int IntKind.i64 (Prod.fst x), IV.int IntKind.i64 (0 : Int), IV.int IntKind.i64 (0 : Int),
 IV.vslice (some (Prod.snd (Prod.snd (Prod.snd (Prod.snd x))))) (List.length (Prod.fst (Prod.snd (Prod.snd (Prod.snd x)))) * (5 : Nat) + (5 : Nat))
 (List.length (Prod.fst (Prod.snd (Prod.snd (Prod.snd x)))) + (1 : Nat)) (5 : Nat)
 (cTs (Prod.fst (Prod.snd (Prod.snd (Prod.snd x)))) ++
 [IV.int IntKind.i64 v, IV.int IntKind.i64 op, IV.int IntKind.i64 im, IV.int IntKind.i64 iv, IV.vslice none (0 : Nat) (List.length ks) (5 : Nat) (cTs ks)])] =
 some
 [IV.int IntKind.i64 (0 : Int), IV.int IntKind.i64 (Prod.fst x_1), IV.int IntKind.i64 (0 : Int), IV.int IntKind.i64 (0 : Int),
 IV.vslice (some (Prod.snd (Prod.snd (Prod.snd (Prod.snd x_1))))) (List.length (Prod.fst (Prod.snd (Prod.snd (Prod.snd x_1)))) * (5 : Nat))
 (List.length (Prod.fst (Prod.snd (Prod.snd (Prod.snd x_1))))) (5 : Nat) (cTs (Prod.fst (Prod.snd (Prod.snd (Prod.snd x_1)))))] ∧
 Heap.set h2 (Prod.snd (Prod.snd (Prod.snd (Prod.snd x)))) (IObj.tip (List.length (Prod.fst (Prod.snd (Prod.snd (Prod.snd x)))) * (5 : Nat) + (5 : Nat))) =
 Prod.fst (Prod.snd (Prod.snd x_1)) ∧
 (dp ≤ (2 : Int) ∧
 ((4 : Int) ≤ Prod.fst x_1 ∧ Prod.fst x_1 ≤ (22 : Int)) ∧
 ((0 : Int) ≤ Prod.fst (Prod.snd x_1) ∧ Prod.fst (Prod.snd x_1) < (1000 : Int)) ∧
 GH h id (Prod.fst (Prod.snd (Prod.snd x_1))) ∧
 (Heap.get (Prod.fst (Prod.snd (Prod.snd x_1))) (Prod.snd (Prod.snd (Prod.snd (Prod.snd x_1)))) =
 IObj.tip (List.length (Prod.fst (Prod.snd (Prod.snd (Prod.snd x_1)))) * (5 : Nat)) ∧
 Prod.snd (Prod.snd (Prod.snd (Prod.snd x_1))) < Heap.next (Prod.fst (Prod.snd (Prod.snd x_1))) ∧
 Prod.snd (Prod.snd (Prod.snd (Prod.snd x_1))) ≠ id ∧ Heap.next h ≤ Prod.snd (Prod.snd (Prod.snd (Prod.snd x_1)))) ∧
 ((0 : Nat) < List.length (Prod.fst (Prod.snd (Prod.snd (Prod.snd x_1)))) ∧
 (↑(List.length (Prod.fst (Prod.snd (Prod.snd (Prod.snd x_1))))) : Int) ≤ ar (Prod.fst x_1)) ∧
 (oks (Prod.fst (Prod.snd (Prod.snd (Prod.snd x_1)))) ∧ vos (Prod.fst (Prod.snd (Prod.snd (Prod.snd x_1))))) ∧
 nums (Prod.fst (Prod.snd (Prod.snd (Prod.snd x_1)))) ≤ List.length (Prod.fst (Prod.snd (Prod.snd (Prod.snd x_1)))) * bnd (Int.toNat ((2 : Int) - dp))) ∧
 Int.toNat (ar (Prod.fst x_1)) - List.length (Prod.fst (Prod.snd (Prod.snd (Prod.snd x_1)))) <
 Int.toNat (ar (Prod.fst x)) - List.length (Prod.fst (Prod.snd (Prod.snd (Prod.snd x))))))
 (brS (hasImm (Prod.fst x))
 (brS (Int.tmod (Prod.fst (Prod.snd x)) (5 : Int) == (0 : Int))
 (brS (Prod.fst x == (27 : Int))
 (Q
 (IV.agg
 [IV.int IntKind.i64 (0 : Int), IV.int IntKind.i64 (Prod.fst x), IV.int IntKind.i64 (1 : Int), IV.int IntKind.i64 (0 : Int),
 IV.vslice (some (Prod.snd (Prod.snd (Prod.snd (Prod.snd x))))) (List.length (Prod.fst (Prod.snd (Prod.snd (Prod.snd x)))) * (5 : Nat)) (List.length (Prod.fst (Prod.snd (Prod.snd (Prod.snd x))))) (5 : Nat)
 (cTs (Prod.fst (Prod.snd (Prod.snd (Prod.snd x)))))])
 (Prod.fst (Prod.snd (Prod.snd x))))
 (Q
 (IV.agg
 [IV.int IntKind.i64 (0 : Int), IV.int IntKind.i64 (Prod.fst x), IV.int IntKind.i64 (IntKind.wrap IntKind.i64 ((1 : Int) - Int.tmod (Prod.fst (Prod.snd x)) (2 : Int))), IV.int IntKind.i64 (0 : Int),
 IV.vslice (some (Prod.snd (Prod.snd (Prod.snd (Prod.snd x))))) (List.length (Prod.fst (Prod.snd (Prod.snd (Prod.snd x)))) * (5 : Nat)) (List.length (Prod.fst (Prod.snd (Prod.snd (Prod.snd x))))) (5 : Nat)
 (cTs (Prod.fst (Prod.snd (Prod.snd (Prod.snd x)))))])
 (Prod.fst (Prod.snd (Prod.snd x)))))
 (Q
 (IV.agg
 [IV.int IntKind.i64 (0 : Int), IV.int IntKind.i64 (Prod.fst x), IV.int IntKind.i64 (0 : Int), IV.int IntKind.i64 (IntKind.wrap IntKind.i64 ((1 : Int) + Int.tmod (Prod.fst (Prod.snd x)) (2 : Int))),
 IV.vslice (some (Prod.snd (Prod.snd (Prod.snd (Prod.snd x))))) (List.length (Prod.fst (Prod.snd (Prod.snd (Prod.snd x)))) * (5 : Nat)) (List.length (Prod.fst (Prod.snd (Prod.snd (Prod.snd x))))) (5 : Nat)
 (cTs (Prod.fst (Prod.snd (Prod.snd (Prod.snd x)))))])
 (Prod.fst (Prod.snd (Prod.snd x)))))
 (Q
 (IV.agg
 [IV.int IntKind.i64 (0 : Int), IV.int IntKind.i64 (Prod.fst x), IV.int IntKind.i64 (0 : Int), IV.int IntKind.i64 (0 : Int),
 IV.vslice (some (Prod.snd (Prod.snd (Prod.snd (Prod.snd x))))) (List.length (Prod.fst (Prod.snd (Prod.snd (Prod.snd x)))) * (5 : Nat)) (List.length (Prod.fst (Prod.snd (Prod.snd (Prod.snd x))))) (5 : Nat)
 (cTs (Prod.fst (Prod.snd (Prod.snd (Prod.snd x)))))])
 (Prod.fst (Prod.snd (Prod.snd x)))))) ∧
 True) := by kernel_rfl
set_option maxHeartbeats 4000000 in
theorem rVPat : ∀ d xs h Q, kVPat d xs h Q → CallW env 30 xs h Q := by
  intro d
  induction d with
  | zero =>
    intro xs h Q hk
    unfold kVPat at hk
    split at hk
    · rename_i id s dp vs st
      obtain ⟨⟨rfl, rfl⟩, hk⟩ := hk
      obtain ⟨h1, h2, h3⟩ := hk
      omega
    · exact hk.elim
  | succ dd ih =>
    intro xs h Q hk
    unfold kVPat at hk
    split at hk
    · rename_i id s dp vs st
      obtain ⟨⟨rfl, rfl⟩, hk⟩ := hk
      refine dF_run (sound_add ih (okNodes)) (vVPat dd id dp vs h Q) ?_
      obtain ⟨hrd, hd, hv, hk1, hk2⟩ := hk
      have hdp : IntKind.i64.wrap (dp + 1) = dp + 1 := IntWalk.i64_in _ (by omega)
      have hvs : IntKind.i64.wrap (vs - 1) = vs - 1 := IntWalk.i64_in _ (by omega)
      have tn : ∀ x : Nat, (x : Int).toNat = x := Int.toNat_natCast
      have h0b : i64b 0 := by unfold i64b; omega
      have h1b : i64b 1 := by unfold i64b; omega
      refine ⟨⟨hrd, fun n h2 hn hr2 hf2 => ⟨by omega, by omega, brS_intro (fun c => ?_) (fun c => ?_), ?_⟩⟩, ?_, trivial⟩
      · refine ⟨(n, IntKind.i64.wrap (n.tdiv 12) % 1000, true, h2), ?_⟩
        repeat (refine And.intro (by first | rfl | exact True.intro) ?_)
        exact ⟨⟨hn, by simp only; omega, fun e => (by cases e), hr2, hf2⟩, trivial⟩
      · rw [decide_eq_false_iff_not] at c
        refine ⟨(n, IntKind.i64.wrap (n.tdiv 12) % 1000, decide (n % 12 < 3), h2), ?_⟩
        repeat (refine And.intro (by first | rfl | exact True.intro) ?_)
        exact ⟨⟨hn, by simp only; omega, fun e => (by omega), hr2, hf2⟩, trivial⟩
      · rintro ⟨n, m, b, g⟩ _ ⟨hn, hm, hb, hg⟩
        simp only at hn hm hb hg ⊢
        have ht : Int.tmod m vs = m % vs := Int.tmod_eq_emod_of_nonneg hm.1
        have hmn := Int.emod_nonneg m (show vs ≠ 0 by omega)
        have hml := Int.emod_lt_of_pos m (show 0 < vs by omega)
        have hw1 : IntKind.i64.wrap (1 + m % vs) = 1 + m % vs := IntWalk.i64_in _ (by omega)
        refine brS_intro (fun c => ?_) (fun c => ?_)
        · rw [ht, hw1]
          have leaf : needS (!vs == 0) (Q (.agg [.int .i64 (1 + m % vs), .int .i64 0, .int .i64 0, .int .i64 0, .nilslice]) g) := needS_intro (by rw [Bool.not_eq_true', beq_eq_false_iff_ne]; omega) (hk1 _ _ _ _ _ ⟨by unfold i64b; omega, h0b, h0b, h0b⟩ (vo_mk (.inl (by omega))) hg)
          exact brS_intro (fun _ => brS_intro (fun _ => ⟨hn, fun w hw => hk1 _ _ _ _ _ ⟨h0b, h1b, hw, h0b⟩ (vo_mk (.inr ⟨.inl rfl, trivial⟩)) hg⟩) (fun _ => leaf)) (fun _ => leaf)
        · have hd2 := hb c
          have ht9 : Int.tmod m 19 = m % 19 := Int.tmod_eq_emod_of_nonneg hm.1
          have hw : IntKind.i64.wrap (4 + m % 19) = 4 + m % 19 := IntWalk.i64_in _ (by omega)
          rw [ht9, hw]
          refine ⟨(4 + m % 19, m, g), ?_⟩
          repeat (refine And.intro (by first | rfl | exact True.intro) ?_)
          exact ⟨⟨hd2, by simp only; omega, hm, hg⟩, trivial⟩
      · rintro ⟨op, m, g⟩ _ ⟨hd2, hop, hm, hg⟩
        simp only at hop hm hg ⊢
        refine ⟨.inl ⟨(op, m, g), ?_⟩, ?_, ?_⟩
        · repeat (refine And.intro (by first | rfl | exact True.intro) ?_)
          exact ⟨⟨hd2, hop, hm, hg⟩, trivial⟩
        · rintro ⟨op, m, g⟩ _ ⟨hd2, hop, hm, hg⟩
          simp only at hop hm hg ⊢
          have hvp : valOp op := .inr hop
          have hos : ∀ k, osort op k = 1 := fun k => by
            have hs1 : sort op = 1 := by unfold sort; rw [if_neg (by omega)]
            unfold osort
            rw [if_neg (by rw [hs1]; omega)]
          refine brS_intro (fun c => ?_) (fun c => ?_)
          · rw [decide_eq_true_eq] at c
            rw [hdp]
            refine ⟨⟨hos _, by trivial⟩, hg.1, by omega, hv, fun v op2 im iv h2 hb2 hvo2 hg2 => .inr ⟨(op, m, h2.push (.tip 5), [T.mk v op2 im iv []], h2.next), ?_⟩, fun v op2 im iv ks io e h2 hb2 hok hnum hvo2 hg2 => .inr ⟨(op, m, h2.push (.tip 5), [T.mk v op2 im iv ks], h2.next), ?_⟩⟩
            · repeat (refine And.intro (by first | rfl | exact True.intro) ?_)
              refine ⟨⟨hd2, hop, hm, (hg.trans hg2).push, ⟨get_push_eq, Nat.lt_succ_self _, Nat.ne_of_gt hg2.1.1, (hg.trans hg2).2.1⟩, ⟨Nat.zero_lt_one, by simp only [List.length_cons, List.length_nil]; omega⟩, ⟨⟨⟨hb2, trivial⟩, trivial⟩, ⟨hvo2, trivial⟩⟩, ?_⟩, ?_⟩
              · have := bnd_pos (2 - dp).toNat
                simp only [nums, T.num, List.length_cons, List.length_nil]; omega
              · simp only [List.length_cons, List.length_nil]; omega
            · repeat (refine And.intro (by first | rfl | exact True.intro) ?_)
              refine ⟨⟨hd2, hop, hm, (hg.trans hg2).push, ⟨get_push_eq, Nat.lt_succ_self _, Nat.ne_of_gt hg2.1.1, (hg.trans hg2).2.1⟩, ⟨Nat.zero_lt_one, by simp only [List.length_cons, List.length_nil]; omega⟩, ⟨⟨⟨hb2, hok⟩, trivial⟩, ⟨hvo2, trivial⟩⟩, ?_⟩, ?_⟩
              · rw [show 3 - (dp + 1) = 2 - dp by omega] at hnum
                simp only [nums, T.num, List.length_cons, List.length_nil]; omega
              · simp only [List.length_cons, List.length_nil]; omega
          · repeat' refine brS_intro (fun _ => ?_) (fun _ => ?_)
            all_goals exact hk1 _ _ _ _ _ ⟨h0b, by unfold i64b; omega, by first | assumption | exact wrap_b _, by first | assumption | exact wrap_b _⟩ (vo_mk (.inr ⟨hvp, trivial⟩)) hg
        · rintro ⟨op, m, g, ks, i2⟩ _ ⟨hd2, hop, hm, hg, ⟨ht, hlt, hne, hhi⟩, ⟨h0, hle⟩, hok, hnum⟩
          simp only at hop hm hg ht hlt hne hhi h0 hle hok hnum ⊢
          have hvp : valOp op := .inr hop
          have hos : ∀ k, osort op k = 1 := fun k => by
            have hs1 : sort op = 1 := by unfold sort; rw [if_neg (by omega)]
            unfold osort
            rw [if_neg (by rw [hs1]; omega)]
          have ha3 : ar op ≤ 3 := by unfold ar; repeat' split <;> omega
          refine brS_intro (fun c => ?_) (fun c => ?_)
          · rw [decide_eq_true_eq] at c
            rw [hdp]
            have hwl : IntKind.i64.wrap ((ks.length : Int) + 1) = ((ks.length + 1 : Nat) : Int) := by rw [IntWalk.i64_in _ (by omega)]; rfl
            have step : ∀ (t : T) (h2 : Heap), t.ok → t.vo → t.num ≤ bnd (2 - dp).toNat → GH g id h2 → (∀ (x : Int × Int × Heap × List T × Nat), x = (op, m, h2.set i2 (.tip (ks.length * 5 + 5)), ks ++ [t], i2) →
                dp ≤ 2 ∧ (4 ≤ x.1 ∧ x.1 ≤ 22) ∧ (0 ≤ x.2.1 ∧ x.2.1 < 1000) ∧ GH h id x.2.2.1 ∧ (x.2.2.1.get x.2.2.2.2 = .tip (x.2.2.2.1.length * 5) ∧ x.2.2.2.2 < x.2.2.1.next ∧ x.2.2.2.2 ≠ id ∧ h.next ≤ x.2.2.2.2) ∧ (0 < x.2.2.2.1.length ∧ (x.2.2.2.1.length : Int) ≤ ar x.1) ∧ (oks x.2.2.2.1 ∧ vos x.2.2.2.1) ∧ nums x.2.2.2.1 ≤ x.2.2.2.1.length * bnd (2 - dp).toNat) := by
              rintro t h2 ht1 ht3 ht2 hg2 _ rfl
              have hll : (ks ++ [t]).length = ks.length + 1 := by simp
              refine ⟨hd2, hop, hm, (hg.trans hg2).set hhi hne, ⟨by rw [get_set_eq, hll, Nat.succ_mul], Nat.lt_of_lt_of_le hlt hg2.2.1, hne, hhi⟩, ⟨by show 0 < (ks ++ [t]).length; omega, by show (((ks ++ [t]).length : Nat) : Int) ≤ ar op; omega⟩, ⟨oks_append.2 ⟨hok.1, ht1, trivial⟩, vos_append.2 ⟨hok.2, ht3, trivial⟩⟩, ?_⟩
              simp only [hll, nums_append, nums, Nat.succ_mul]
              omega
            have htip : ∀ h2, GH g id h2 → h2.get i2 = .tip (ks.length * 5) := fun h2 hg2 => (hg2.2.2 i2 hlt hne).trans ht
            refine ⟨⟨hos _, by trivial⟩, hg.1, by omega, hv, fun v op2 im iv h2 hb2 hvo2 hg2 => tip_intro (htip h2 hg2) (needS_intro (by simp [nbeq_t]; omega) (.inr ⟨(op, m, h2.set i2 (.tip (ks.length * 5 + 5)), ks ++ [T.mk v op2 im iv []], i2), ?_⟩)),
              fun v op2 im iv kk io e h2 hb2 hok2 hnum2 hvo2 hg2 => tip_intro (htip h2 hg2) (needS_intro (by simp [nbeq_t]; omega) (.inr ⟨(op, m, h2.set i2 (.tip (ks.length * 5 + 5)), ks ++ [T.mk v op2 im iv kk], i2), ?_⟩))⟩
            · repeat (refine And.intro (by first | rfl | exact True.intro) ?_)
              refine ⟨by simp only [hwl, List.length_append, List.length_cons, List.length_nil], ?_⟩
              repeat (refine And.intro (by first | rfl | exact True.intro) ?_)
              refine ⟨by simp [cTs, cT, cTs_append, Nat.succ_mul], ?_⟩
              repeat (refine And.intro (by first | rfl | exact True.intro) ?_)
              refine ⟨step _ _ (show T.ok (T.mk v op2 im iv []) from ⟨hb2, trivial⟩) hvo2 ?_ hg2 _ rfl, ?_⟩
              · have := bnd_pos (2 - dp).toNat
                simp only [nums, T.num]; omega
              · simp only [List.length_append, List.length_cons, List.length_nil]; omega
            · repeat (refine And.intro (by first | rfl | exact True.intro) ?_)
              refine ⟨by simp only [hwl, List.length_append, List.length_cons, List.length_nil], ?_⟩
              repeat (refine And.intro (by first | rfl | exact True.intro) ?_)
              refine ⟨by simp [cTs, cT, cTs_append, Nat.succ_mul], ?_⟩
              repeat (refine And.intro (by first | rfl | exact True.intro) ?_)
              refine ⟨step _ _ (show T.ok (T.mk v op2 im iv kk) from ⟨hb2, hok2⟩) hvo2 ?_ hg2 _ rfl, ?_⟩
              · rw [show 3 - (dp + 1) = 2 - dp by omega] at hnum2
                simp only [T.num]; omega
              · simp only [List.length_append, List.length_cons, List.length_nil]; omega
          · have hfin : nums ks + 1 ≤ bnd (3 - dp).toNat := by
              rw [show (3 - dp).toNat = (2 - dp).toNat + 1 by omega]
              simp only [bnd]
              have : ks.length * bnd (2 - dp).toNat ≤ 3 * bnd (2 - dp).toNat := Nat.mul_le_mul_right _ (by omega)
              omega
            repeat' refine brS_intro (fun _ => ?_) (fun _ => ?_)
            all_goals exact hk2 _ _ _ _ ks _ _ _ ⟨h0b, by unfold i64b; omega, by first | assumption | exact wrap_b _, by first | assumption | exact wrap_b _⟩ hok.1 hfin (vo_mk (.inr ⟨hvp, hok.2⟩)) hg
    · exact hk.elim
def cVPat := addC 30 (fun xs h K => ∃ d, kVPat d xs h K) cNodes
theorem okVPat : Sound env cVPat := sound_add (fun xs h Q hk => hk.elim fun d hk => rVPat d xs h Q hk) (okNodes)

def kNextE (xs : List IV) (h : Heap) (K : IV → Heap → Prop) : Prop := match xs with
  | [.ptr id 0] => ∃ io e lp, ∃ l : List Int, (id < h.next ∧ (∀ x ∈ l, i64b x) ∧ h.get id = .cells [.vslice io e l.length 1 (l.map (IV.int .i64)), .int .i64 lp]) ∧ ∀ h2 : Heap, RD h2 id → HF id h h2 → K (.int .i64 (l.headD 0)) h2
  | _ => False
set_option maxRecDepth 100000 in
theorem vNextE (id : Nat) (h : Heap) (Q : IV → Heap → Prop) : dF (stdS cVPat) env 29 noU noI noI [.ptr id 0] h Q = (
  hgetS h id fun (r0 : List IV) =>
 ldVS (1 : Nat) r0 (0 : Nat) fun (i1 : Option Nat) (e2 l3 : Nat) (c4 : List IV) =>
 brS ((↑l3 : Int) == (0 : Int)) (Q (IV.int IntKind.i64 (0 : Int)) h)
 (hgetS h id fun (r5 : List IV) =>
 ldVS (1 : Nat) r5 (0 : Nat) fun (i6 : Option Nat) (e7 l8 : Nat) (c9 : List IV) =>
 needS (true && decide ((0 : Int) < (↑l8 : Int)))
 (ldIS IntKind.i64 c9 (0 : Nat) fun (n10 : Int) =>
 hgetS h id fun (r11 : List IV) =>
 ldVS (1 : Nat) r11 (0 : Nat) fun (i12 : Option Nat) (e13 l14 : Nat) (c15 : List IV) =>
 needS (true && (decide ((1 : Int) ≤ (↑l14 : Int)) && decide ((↑l14 : Int) ≤ (↑l14 : Int))))
 (hgetS h id fun (r16 : List IV) =>
 needS (Nat.ble (1 : Nat) (List.length r16))
 (Q (IV.int IntKind.i64 n10)
 (Heap.set h id
 (IObj.cells
 (IV.vslice i12 (e13 - (l14 - Int.toNat (↑l14 : Int)) * (1 : Nat)) (Int.toNat (↑l14 : Int) - (1 : Nat)) (1 : Nat) (List.take ((Int.toNat (↑l14 : Int) - (1 : Nat)) * (1 : Nat)) (List.drop (1 : Nat) c15)) ::
 List.drop (1 : Nat) r16)))))))) := by kernel_rfl
theorem sNextE : ∀ xs h Q, kNextE xs h Q → CallW env 29 xs h Q := by
  intro xs h Q hk
  unfold kNextE at hk
  split at hk
  · rename_i id
    obtain ⟨io, e, lp, l, ⟨hlt, hb, hg⟩, hk⟩ := hk
    refine dF_run (okVPat) (vNextE id h Q) ?_
    refine hget_intro hg (ldV0 ?_)
    refine brS_intro (fun c => ?_) (fun c => hget_intro hg (ldV0 ?_))
    · cases l with
      | nil => exact hk h ⟨hlt, io, e, lp, [], hb, hg⟩ HF.refl
      | cons a r => exfalso; simp at c; omega
    have hl : 0 < l.length := by
      simp at c
      exact Nat.pos_of_ne_zero (by simpa using c)
    refine needS_intro (by simp; omega) (ldIS_map (i := 0) hl (hget_intro hg (ldV0 (needS_intro (by simp; omega) (hget_intro hg (needS_intro (by simp) ?_))))))
    have e0 : l.headD 0 = l[0] := by cases l with | nil => simp at hl | cons a r => rfl
    rw [e0] at hk
    refine hk _ ⟨hlt, io, e - (l.length - ((l.length : Int)).toNat) * 1, lp, l.drop 1, fun x hx => hb x (List.mem_of_mem_drop hx), ?_⟩ HF.set
    refine (get_set_eq (h := h)).trans ?_
    simp
    exact List.take_of_length_le (by simp)
  · exact hk.elim
def cNextE := addC 29 kNextE cVPat
theorem okNextE : Sound env cNextE := sound_add sNextE (okVPat)

def kPat0 (xs : List IV) (h : Heap) (K : IV → Heap → Prop) : Prop := match xs with
  | [.vslice none e1 n1 1 c1] => ∃ l : List Int, (n1 = l.length ∧ c1 = l.map (IV.int .i64)) ∧ (l.head? = some 0 ∧ (∀ x ∈ l, i64b x) ∧ l.length ≤ 9223372036854775807) ∧
   ∀ (v op im iv : Int) (ks : List T), (T.mk v op im iv ks).ok → (T.mk v op im iv ks).num ≤ 40 → (T.mk v op im iv ks).vo → K (.agg [.int .i64 v, .int .i64 op, .int .i64 im, .int .i64 iv, .vslice none 0 ks.length 5 (cTs ks)]) h
  | _ => False
set_option maxRecDepth 100000 in
theorem vPat0 (l : List Int) (e1 : Nat) (h : Heap) (Q : IV → Heap → Prop) : dF (stdS cNextE) env 12 noU noI noI [.vslice none e1 (l).length 1 ((l).map (IV.int .i64))] h Q = (
  needS (pureL [IV.vslice none (0 : Nat) (List.length l) (1 : Nat) (List.map (IV.int IntKind.i64) l)])
 (needS
 (true &&
 (decide ((0 : Int) ≤ if (30 : Int) < (↑(List.length l) : Int) then (30 : Int) else (↑(List.length l) : Int)) &&
 decide ((if (30 : Int) < (↑(List.length l) : Int) then (30 : Int) else (↑(List.length l) : Int)) ≤ (↑(List.length l) : Int))))
 (brS (Nat.beq (Int.toNat (if (30 : Int) < (↑(List.length l) : Int) then (30 : Int) else (↑(List.length l) : Int)) - (0 : Nat)) (0 : Nat))
 (∃ (io : Option Nat),
 ∃ (e : Nat),
 ∃ (lp : Int),
 ∃ (l : List Int),
 ((0 : Nat) < (0 : Nat) + (1 : Nat) ∧
 (∀ (x : Int), x ∈ l → i64b x) ∧
 IObj.cells [IV.vslice none (1 : Nat) (0 : Nat) (1 : Nat) [], IV.int IntKind.i64 (0 : Int)] = IObj.cells [IV.vslice io e (List.length l) (1 : Nat) (List.map (IV.int IntKind.i64) l), IV.int IntKind.i64 lp]) ∧
 ∀ (h2 : Heap),
 RD h2 (0 : Nat) →
 HF (0 : Nat) (Heap.mk (PT.node PT.nil (some (IObj.cells [IV.vslice none (1 : Nat) (0 : Nat) (1 : Nat) [], IV.int IntKind.i64 (0 : Int)])) PT.nil) ((0 : Nat) + (1 : Nat))) h2 →
 ((0 : Int) < (2 : Int) ∧ (2 : Int) < (4611686018427387904 : Int)) ∧
 ((0 : Int) < (4 : Int) ∧ (4 : Int) < (4611686018427387904 : Int)) ∧
 ((0 : Int) < (2 : Int) ∧ (2 : Int) < (4611686018427387904 : Int)) ∧
 brS (List.headD l (0 : Int) % (2 : Int) == (1 : Int))
 (∃ (d : Nat),
 (IntKind.wrap IntKind.i64 ((1 : Int) + List.headD l (0 : Int) % (2 : Int)) = (1 : Int) ∧ true = false) ∧
 RD h2 (0 : Nat) ∧
 ((0 : Int) ≤ (0 : Int) ∧ (0 : Int) ≤ (3 : Int) ∧ (3 : Int) < (↑d : Int)) ∧
 ((1 : Int) ≤ IntKind.wrap IntKind.i64 ((1 : Int) + IntKind.wrap IntKind.i64 (Int.tdiv (List.headD l (0 : Int)) (2 : Int)) % (4 : Int)) ∧
 IntKind.wrap IntKind.i64 ((1 : Int) + IntKind.wrap IntKind.i64 (Int.tdiv (List.headD l (0 : Int)) (2 : Int)) % (4 : Int)) ≤ (4 : Int)) ∧
 (∀ (v op im iv : Int) (h2_1 : Heap),
 i64b v ∧ i64b op ∧ i64b im ∧ i64b iv →
 T.vo (T.mk v op im iv []) →
 GH h2 (0 : Nat) h2_1 → Q (IV.agg [IV.int IntKind.i64 v, IV.int IntKind.i64 op, IV.int IntKind.i64 im, IV.int IntKind.i64 iv, IV.vslice none (0 : Nat) (0 : Nat) (5 : Nat) []]) h) ∧
 ∀ (v op im iv : Int) (ks : List T) (io : Option Nat) (e : Nat) (h2_1 : Heap),
 i64b v ∧ i64b op ∧ i64b im ∧ i64b iv →
 oks ks →
 nums ks + (1 : Nat) ≤ (40 : Nat) →
 T.vo (T.mk v op im iv ks) →
 GH h2 (0 : Nat) h2_1 →
 needS (pureL [IV.agg [IV.int IntKind.i64 v, IV.int IntKind.i64 op, IV.int IntKind.i64 im, IV.int IntKind.i64 iv, IV.vslice none (0 : Nat) (List.length ks) (5 : Nat) (cTs ks)]])
 (Q (IV.agg [IV.int IntKind.i64 v, IV.int IntKind.i64 op, IV.int IntKind.i64 im, IV.int IntKind.i64 iv, IV.vslice none (0 : Nat) (List.length ks) (5 : Nat) (cTs ks)]) h))
 (((0 : Int) < (2 : Int) ∧ (2 : Int) < (4611686018427387904 : Int)) ∧
 ∃ (d : Nat),
 (IntKind.wrap IntKind.i64 ((1 : Int) + List.headD l (0 : Int) % (2 : Int)) = (1 : Int) ∧ (IntKind.wrap IntKind.i64 (Int.tdiv (List.headD l (0 : Int)) (8 : Int)) % (2 : Int) == (1 : Int)) = false) ∧
 RD h2 (0 : Nat) ∧
 ((0 : Int) ≤ (0 : Int) ∧ (0 : Int) ≤ (3 : Int) ∧ (3 : Int) < (↑d : Int)) ∧
 ((1 : Int) ≤ IntKind.wrap IntKind.i64 ((1 : Int) + IntKind.wrap IntKind.i64 (Int.tdiv (List.headD l (0 : Int)) (2 : Int)) % (4 : Int)) ∧
 IntKind.wrap IntKind.i64 ((1 : Int) + IntKind.wrap IntKind.i64 (Int.tdiv (List.headD l (0 : Int)) (2 : Int)) % (4 : Int)) ≤ (4 : Int)) ∧
 (∀ (v op im iv : Int) (h2_1 : Heap),
 i64b v ∧ i64b op ∧ i64b im ∧ i64b iv →
 T.vo (T.mk v op im iv []) →
 GH h2 (0 : Nat) h2_1 → Q (IV.agg [IV.int IntKind.i64 v, IV.int IntKind.i64 op, IV.int IntKind.i64 im, IV.int IntKind.i64 iv, IV.vslice none (0 : Nat) (0 : Nat) (5 : Nat) []]) h) ∧
 ∀ (v op im iv : Int) (ks : List T) (io : Option Nat) (e : Nat) (h2_1 : Heap),
 i64b v ∧ i64b op ∧ i64b im ∧ i64b iv →
 oks ks →
 nums ks + (1 : Nat) ≤ (40 : Nat) →
 T.vo (T.mk v op im iv ks) →
 GH h2 (0 : Nat) h2_1 →
 needS (pureL [IV.agg [IV.int IntKind.i64 v, IV.int IntKind.i64 op, IV.int IntKind.i64 im, IV.int IntKind.i64 iv, IV.vslice none (0 : Nat) (List.length ks) (5 : Nat) (cTs ks)]])
 (Q (IV.agg [IV.int IntKind.i64 v, IV.int IntKind.i64 op, IV.int IntKind.i64 im, IV.int IntKind.i64 iv, IV.vslice none (0 : Nat) (List.length ks) (5 : Nat) (cTs ks)]) h)))
 (needS (Nat.ble (((0 : Nat) + (Int.toNat (if (30 : Int) < (↑(List.length l) : Int) then (30 : Int) else (↑(List.length l) : Int)) - (0 : Nat))) * (8 : Nat)) (140737488355328 : Nat))
 (∃ (io : Option Nat),
 ∃ (e : Nat),
 ∃ (lp : Int),
 ∃ (l_1 : List Int),
 ((0 : Nat) + (1 : Nat) < (0 : Nat) + (1 : Nat) + (1 : Nat) ∧
 (∀ (x : Int), x ∈ l_1 → i64b x) ∧
 IObj.cells
 [IV.vslice (some (0 : Nat)) (((0 : Nat) + (Int.toNat (if (30 : Int) < (↑(List.length l) : Int) then (30 : Int) else (↑(List.length l) : Int)) - (0 : Nat))) * (1 : Nat))
 ((0 : Nat) + (Int.toNat (if (30 : Int) < (↑(List.length l) : Int) then (30 : Int) else (↑(List.length l) : Int)) - (0 : Nat))) (1 : Nat)
 ([] ++ List.take ((Int.toNat (if (30 : Int) < (↑(List.length l) : Int) then (30 : Int) else (↑(List.length l) : Int)) - (0 : Nat)) * (1 : Nat)) (List.drop (0 : Nat) (List.map (IV.int IntKind.i64) l))),
 IV.int IntKind.i64 (0 : Int)] =
 IObj.cells [IV.vslice io e (List.length l_1) (1 : Nat) (List.map (IV.int IntKind.i64) l_1), IV.int IntKind.i64 lp]) ∧
 ∀ (h2 : Heap),
 RD h2 ((0 : Nat) + (1 : Nat)) →
 HF ((0 : Nat) + (1 : Nat))
 (Heap.mk
 (PT.node
 (PT.node PT.nil
 (some
 (IObj.cells
 [IV.vslice (some (0 : Nat)) (((0 : Nat) + (Int.toNat (if (30 : Int) < (↑(List.length l) : Int) then (30 : Int) else (↑(List.length l) : Int)) - (0 : Nat))) * (1 : Nat))
 ((0 : Nat) + (Int.toNat (if (30 : Int) < (↑(List.length l) : Int) then (30 : Int) else (↑(List.length l) : Int)) - (0 : Nat))) (1 : Nat)
 ([] ++
 List.take ((Int.toNat (if (30 : Int) < (↑(List.length l) : Int) then (30 : Int) else (↑(List.length l) : Int)) - (0 : Nat)) * (1 : Nat)) (List.drop (0 : Nat) (List.map (IV.int IntKind.i64) l))),
 IV.int IntKind.i64 (0 : Int)]))
 PT.nil)
 (some (IObj.tip (((0 : Nat) + (Int.toNat (if (30 : Int) < (↑(List.length l) : Int) then (30 : Int) else (↑(List.length l) : Int)) - (0 : Nat))) * (1 : Nat)))) PT.nil)
 ((0 : Nat) + (1 : Nat) + (1 : Nat)))
 h2 →
 ((0 : Int) < (2 : Int) ∧ (2 : Int) < (4611686018427387904 : Int)) ∧
 ((0 : Int) < (4 : Int) ∧ (4 : Int) < (4611686018427387904 : Int)) ∧
 ((0 : Int) < (2 : Int) ∧ (2 : Int) < (4611686018427387904 : Int)) ∧
 brS (List.headD l_1 (0 : Int) % (2 : Int) == (1 : Int))
 (∃ (d : Nat),
 (IntKind.wrap IntKind.i64 ((1 : Int) + List.headD l_1 (0 : Int) % (2 : Int)) = (1 : Int) ∧ true = false) ∧
 RD h2 ((0 : Nat) + (1 : Nat)) ∧
 ((0 : Int) ≤ (0 : Int) ∧ (0 : Int) ≤ (3 : Int) ∧ (3 : Int) < (↑d : Int)) ∧
 ((1 : Int) ≤ IntKind.wrap IntKind.i64 ((1 : Int) + IntKind.wrap IntKind.i64 (Int.tdiv (List.headD l_1 (0 : Int)) (2 : Int)) % (4 : Int)) ∧
 IntKind.wrap IntKind.i64 ((1 : Int) + IntKind.wrap IntKind.i64 (Int.tdiv (List.headD l_1 (0 : Int)) (2 : Int)) % (4 : Int)) ≤ (4 : Int)) ∧
 (∀ (v op im iv : Int) (h2_1 : Heap),
 i64b v ∧ i64b op ∧ i64b im ∧ i64b iv →
 T.vo (T.mk v op im iv []) →
 GH h2 ((0 : Nat) + (1 : Nat)) h2_1 →
 Q (IV.agg [IV.int IntKind.i64 v, IV.int IntKind.i64 op, IV.int IntKind.i64 im, IV.int IntKind.i64 iv, IV.vslice none (0 : Nat) (0 : Nat) (5 : Nat) []]) h) ∧
 ∀ (v op im iv : Int) (ks : List T) (io : Option Nat) (e : Nat) (h2_1 : Heap),
 i64b v ∧ i64b op ∧ i64b im ∧ i64b iv →
 oks ks →
 nums ks + (1 : Nat) ≤ (40 : Nat) →
 T.vo (T.mk v op im iv ks) →
 GH h2 ((0 : Nat) + (1 : Nat)) h2_1 →
 needS (pureL [IV.agg [IV.int IntKind.i64 v, IV.int IntKind.i64 op, IV.int IntKind.i64 im, IV.int IntKind.i64 iv, IV.vslice none (0 : Nat) (List.length ks) (5 : Nat) (cTs ks)]])
 (Q (IV.agg [IV.int IntKind.i64 v, IV.int IntKind.i64 op, IV.int IntKind.i64 im, IV.int IntKind.i64 iv, IV.vslice none (0 : Nat) (List.length ks) (5 : Nat) (cTs ks)]) h))
 (((0 : Int) < (2 : Int) ∧ (2 : Int) < (4611686018427387904 : Int)) ∧
 ∃ (d : Nat),
 (IntKind.wrap IntKind.i64 ((1 : Int) + List.headD l_1 (0 : Int) % (2 : Int)) = (1 : Int) ∧ (IntKind.wrap IntKind.i64 (Int.tdiv (List.headD l_1 (0 : Int)) (8 : Int)) % (2 : Int) == (1 : Int)) = false) ∧
 RD h2 ((0 : Nat) + (1 : Nat)) ∧
 ((0 : Int) ≤ (0 : Int) ∧ (0 : Int) ≤ (3 : Int) ∧ (3 : Int) < (↑d : Int)) ∧
 ((1 : Int) ≤ IntKind.wrap IntKind.i64 ((1 : Int) + IntKind.wrap IntKind.i64 (Int.tdiv (List.headD l_1 (0 : Int)) (2 : Int)) % (4 : Int)) ∧
 IntKind.wrap IntKind.i64 ((1 : Int) + IntKind.wrap IntKind.i64 (Int.tdiv (List.headD l_1 (0 : Int)) (2 : Int)) % (4 : Int)) ≤ (4 : Int)) ∧
 (∀ (v op im iv : Int) (h2_1 : Heap),
 i64b v ∧ i64b op ∧ i64b im ∧ i64b iv →
 T.vo (T.mk v op im iv []) →
 GH h2 ((0 : Nat) + (1 : Nat)) h2_1 →
 Q (IV.agg [IV.int IntKind.i64 v, IV.int IntKind.i64 op, IV.int IntKind.i64 im, IV.int IntKind.i64 iv, IV.vslice none (0 : Nat) (0 : Nat) (5 : Nat) []]) h) ∧
 ∀ (v op im iv : Int) (ks : List T) (io : Option Nat) (e : Nat) (h2_1 : Heap),
 i64b v ∧ i64b op ∧ i64b im ∧ i64b iv →
 oks ks →
 nums ks + (1 : Nat) ≤ (40 : Nat) →
 T.vo (T.mk v op im iv ks) →
 GH h2 ((0 : Nat) + (1 : Nat)) h2_1 →
 needS (pureL [IV.agg [IV.int IntKind.i64 v, IV.int IntKind.i64 op, IV.int IntKind.i64 im, IV.int IntKind.i64 iv, IV.vslice none (0 : Nat) (List.length ks) (5 : Nat) (cTs ks)]])
 (Q (IV.agg [IV.int IntKind.i64 v, IV.int IntKind.i64 op, IV.int IntKind.i64 im, IV.int IntKind.i64 iv, IV.vslice none (0 : Nat) (List.length ks) (5 : Nat) (cTs ks)]) h))))))) := by kernel_rfl
set_option maxHeartbeats 2000000 in
theorem sPat0 : ∀ xs h Q, kPat0 xs h Q → CallW env 12 xs h Q := by
  intro xs h Q hk
  unfold kPat0 at hk
  split at hk
  · rename_i e1 n1 c1
    obtain ⟨l, ⟨rfl, rfl⟩, hb, hk⟩ := hk
    refine dF_run (okNextE) (vPat0 l e1 h Q) ?_
    obtain ⟨h0, hb, hl⟩ := hb
    have hpos : 0 < l.length := by
      cases l with
      | nil => cases h0
      | cons a r => simp
    have hmin : 1 ≤ (if (30 : Int) < (l.length : Int) then (30 : Int) else (l.length : Int)) ∧ (if (30 : Int) < (l.length : Int) then (30 : Int) else (l.length : Int)) ≤ (l.length : Int) ∧ (if (30 : Int) < (l.length : Int) then (30 : Int) else (l.length : Int)) ≤ 30 := by split <;> omega
    generalize (if (30 : Int) < (l.length : Int) then (30 : Int) else (l.length : Int)) = z at *
    refine needS_intro (by simp only [pureL, pureB, pureL_ints, Bool.and_true]) (needS_intro (by simp; omega) (brS_intro (fun c => ?_) (fun c => needS_intro (by rw [Nat.ble_eq]; omega) ⟨some 0, (0 + (z.toNat - 0)) * 1, 0, l.take z.toNat, ⟨Nat.lt_succ_self _, fun x hx => hb x (List.mem_of_mem_take hx), ?_⟩, fun h2 hr hf => ?_⟩)))
    · exfalso
      have := nbeq_t.1 c
      omega
    · have e1 : (l.take z.toNat).length = z.toNat := by rw [List.length_take]; omega
      rw [e1]
      show IObj.cells [IV.vslice (some 0) ((0 + (z.toNat - 0)) * 1) (0 + (z.toNat - 0)) 1 ([] ++ List.take ((z.toNat - 0) * 1) (List.drop 0 (List.map (IV.int .i64) l))), IV.int .i64 0] = _
      simp [List.map_take]
    have e0 : (l.take z.toNat).headD 0 = 0 := by
      obtain ⟨k, hk⟩ : ∃ k, z.toNat = k + 1 := ⟨z.toNat - 1, by omega⟩
      rw [hk]
      cases l with
      | nil => cases h0
      | cons a r =>
        simp only [List.head?_cons, Option.some.injEq] at h0
        subst h0
        rfl
    rw [e0]
    have hw : IntKind.i64.wrap (1 + IntKind.i64.wrap (Int.tdiv 0 2) % 4) = 1 := by decide
    rw [hw]
    have k1 : ∀ (v op im iv : Int), i64b v ∧ i64b op ∧ i64b im ∧ i64b iv → (T.mk v op im iv []).vo → Q (IV.agg [IV.int .i64 v, IV.int .i64 op, IV.int .i64 im, IV.int .i64 iv, IV.vslice none 0 0 5 []]) h := fun v op im iv hb3 hvo =>
      hk v op im iv [] ⟨hb3, trivial⟩ (by simp only [T.num, nums]; omega) hvo
    have k2 : ∀ (v op im iv : Int) (ks : List T), i64b v ∧ i64b op ∧ i64b im ∧ i64b iv → oks ks → nums ks + 1 ≤ 40 → (T.mk v op im iv ks).vo → needS (pureL [IV.agg [IV.int .i64 v, IV.int .i64 op, IV.int .i64 im, IV.int .i64 iv, IV.vslice none 0 ks.length 5 (cTs ks)]]) (Q (IV.agg [IV.int .i64 v, IV.int .i64 op, IV.int .i64 im, IV.int .i64 iv, IV.vslice none 0 ks.length 5 (cTs ks)]) h) :=
      fun v op im iv ks hb3 hok hnum hvo => needS_intro (by simp only [pureL, pureB, pureL_cTs, Bool.and_true]) (hk v op im iv ks ⟨hb3, hok⟩ (by simp only [T.num]; omega) hvo)
    exact ⟨by omega, by omega, by omega, brS_intro (fun c => by simp at c) (fun _ => ⟨by omega, 4, ⟨by decide, by decide⟩, hr, by omega, by omega, fun v op im iv h3 hb3 hvo _ => k1 v op im iv hb3 hvo, fun v op im iv ks io e h3 hb3 hok hnum hvo _ => k2 v op im iv ks hb3 hok hnum hvo⟩)⟩
  · exact hk.elim
def cPat0 := addC 12 kPat0 cNextE
theorem okPat0 : Sound env cPat0 := sound_add sPat0 (okNextE)

end Go.Proofs.Ytmfnadojephcpaa
