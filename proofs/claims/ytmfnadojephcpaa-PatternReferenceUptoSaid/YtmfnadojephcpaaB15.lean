/-
  Patterns: the generated patterns; their sizes.
  Conditions: none.
-/
import Derived.Test.YtmfnadojephcpaaA15
import Derived.KernelRfl
set_option linter.unusedVariables false
set_option linter.unusedSimpArgs false
namespace Go.Proofs.Ytmfnadojephcpaa
open Go.Pv Go.M15
/-- behind the seed: is it a leaf -/
def ptCut0 (id : Nat) (s dp vs : Int) (st : Bool) (h : Heap) : Inv' := atX (Int × Int × Bool × Heap) (fun x => [(0, .v (.ptr id 0)), (1, .v (.int .i64 s)), (2, .v (.int .i64 dp)), (3, .v (.int .i64 vs)), (4, .v (.bool st)), (10, .l 10 0), (11, .v (.int .i64 x.1)), (12, .v (.int .i64 (x.1 % 12))), (13, .v (.int .i64 x.2.1)), (30, .v (.bool x.2.2.1))]) (fun x => [(10, [.int .i64 0, .int .i64 0, .int .i64 0, .int .i64 0, .nilslice])]) (fun x => x.2.2.2)
  (fun x => i64b x.1 ∧ (0 ≤ x.2.1 ∧ x.2.1 < 1000) ∧ (x.2.2.1 = false → dp ≤ 2) ∧ GH h id x.2.2.2) (fun _ => 0)
/-- behind the choice of the operation: the operation, the seed's rest, the heap -/
def ptCut (id : Nat) (dp vs : Int) (st : Bool) (h : Heap) : Inv' := atX (Int × Int × Heap) (fun x => [(0, .v (.ptr id 0)), (2, .v (.int .i64 dp)), (3, .v (.int .i64 vs)), (4, .v (.bool st)), (10, .l 10 0), (13, .v (.int .i64 x.2.1)), (14, .l 14 0)]) (fun x => [(10, [.int .i64 0, .int .i64 0, .int .i64 0, .int .i64 0, .nilslice]), (14, [.int .i64 0, .int .i64 x.1, .int .i64 0, .int .i64 0, .nilslice])]) (fun x => x.2.2) (fun x => dp ≤ 2 ∧ (1 ≤ x.1 ∧ x.1 ≤ 29) ∧ (0 ≤ x.2.1 ∧ x.2.1 < 1000) ∧ GH h id x.2.2) (fun _ => 0)
/-- at the loop's head: no operand so far, or some -/
def ptInv (id : Nat) (dp vs : Int) (st : Bool) (h : Heap) : Inv' := .or
  (atX (Int × Int × Heap) (fun x => [(0, .v (.ptr id 0)), (2, .v (.int .i64 dp)), (3, .v (.int .i64 vs)), (4, .v (.bool st)), (10, .l 10 0), (13, .v (.int .i64 x.2.1)), (14, .l 14 0), (15, .v (.int .i64 (ar x.1))), (17, .v (.int .i64 0))]) (fun x => [(10, [.int .i64 0, .int .i64 0, .int .i64 0, .int .i64 0, .nilslice]), (14, [.int .i64 0, .int .i64 x.1, .int .i64 0, .int .i64 0, .nilslice])]) (fun x => x.2.2) (fun x => dp ≤ 2 ∧ (1 ≤ x.1 ∧ x.1 ≤ 29) ∧ (0 ≤ x.2.1 ∧ x.2.1 < 1000) ∧ GH h id x.2.2) (fun x => (ar x.1).toNat))
  (atX (Int × Int × Heap × List T × Nat) (fun x => [(0, .v (.ptr id 0)), (2, .v (.int .i64 dp)), (3, .v (.int .i64 vs)), (4, .v (.bool st)), (10, .l 10 0), (13, .v (.int .i64 x.2.1)), (14, .l 14 0), (15, .v (.int .i64 (ar x.1))), (17, .v (.int .i64 x.2.2.2.1.length))]) (fun x => [(10, [.int .i64 0, .int .i64 0, .int .i64 0, .int .i64 0, .nilslice]), (14, [.int .i64 0, .int .i64 x.1, .int .i64 0, .int .i64 0, .vslice (some x.2.2.2.2) (x.2.2.2.1.length * 5) x.2.2.2.1.length 5 (cTs x.2.2.2.1)])]) (fun x => x.2.2.1)
    (fun x => dp ≤ 2 ∧ (1 ≤ x.1 ∧ x.1 ≤ 29) ∧ (0 ≤ x.2.1 ∧ x.2.1 < 1000) ∧ GH h id x.2.2.1 ∧ (x.2.2.1.get x.2.2.2.2 = .tip (x.2.2.2.1.length * 5) ∧ x.2.2.2.2 < x.2.2.1.next ∧ x.2.2.2.2 ≠ id ∧ h.next ≤ x.2.2.2.2) ∧ (0 < x.2.2.2.1.length ∧ (x.2.2.2.1.length : Int) ≤ ar x.1) ∧ oks x.2.2.2.1 ∧ nums x.2.2.2.1 ≤ x.2.2.2.1.length * bnd (2 - dp).toNat) (fun x => (ar x.1).toNat - x.2.2.2.1.length))
def kRPat (d : Nat) (xs : List IV) (h : Heap) (K : IV → Heap → Prop) : Prop := match xs with
  | [.ptr id 0, .int .i64 s, .int .i64 dp, .int .i64 vs, .bool st] => RD h id ∧ (0 ≤ dp ∧ dp ≤ 3 ∧ 3 - dp < (d : Int)) ∧ (1 ≤ vs ∧ vs ≤ 4) ∧
   (∀ (v op im iv : Int) (h2 : Heap), (i64b v ∧ i64b op ∧ i64b im ∧ i64b iv) → GH h id h2 → K (.agg [.int .i64 v, .int .i64 op, .int .i64 im, .int .i64 iv, .nilslice]) h2) ∧
   (∀ (v op im iv : Int) (ks : List T) (io : Option Nat) (e : Nat) (h2 : Heap), (i64b v ∧ i64b op ∧ i64b im ∧ i64b iv) → oks ks → nums ks + 1 ≤ bnd (3 - dp).toNat → GH h id h2 →
      K (.agg [.int .i64 v, .int .i64 op, .int .i64 im, .int .i64 iv, .vslice io e ks.length 5 (cTs ks)]) h2)
  | _ => False
set_option maxRecDepth 100000 in
theorem vRPat (dd : Nat) (id : Nat) (s dp vs : Int) (st : Bool) (h : Heap) (Q : IV → Heap → Prop) : dF (stdS (addC 30 (kRPat dd) cNext)) env 30 noU (ic1 20 (ptInv id dp vs st h)) (icS (icA 6 (ptCut0 id s dp vs st h) (ic1 18 (ptCut id dp vs st h)))) [.ptr id 0, .int .i64 s, .int .i64 dp, .int .i64 vs, .bool st] h Q = (
  (RD h id ∧
 ∀ (n : Int) (h2 : Heap),
 i64b n →
 RD h2 id →
 HF id h h2 →
 ((0 : Int) < (12 : Int) ∧ (12 : Int) < (4611686018427387904 : Int)) ∧
 ((0 : Int) < (1000 : Int) ∧ (1000 : Int) < (4611686018427387904 : Int)) ∧
 brS (decide (dp > (2 : Int)))
 (∃ (x : Int × Int × Bool × Heap),
 some (TV.v (IV.ptr id (0 : Nat))) = some (TV.v (IV.ptr id (0 : Nat))) ∧
 some (TV.v (IV.int IntKind.i64 s)) = some (TV.v (IV.int IntKind.i64 s)) ∧
 some (TV.v (IV.int IntKind.i64 dp)) = some (TV.v (IV.int IntKind.i64 dp)) ∧
 some (TV.v (IV.int IntKind.i64 vs)) = some (TV.v (IV.int IntKind.i64 vs)) ∧
 some (TV.v (IV.bool st)) = some (TV.v (IV.bool st)) ∧
 some (TV.l (10 : Nat) (0 : Nat)) = some (TV.l (10 : Nat) (0 : Nat)) ∧
 some (TV.v (IV.int IntKind.i64 n)) = some (TV.v (IV.int IntKind.i64 (Prod.fst x))) ∧
 some (TV.v (IV.int IntKind.i64 (n % (12 : Int)))) = some (TV.v (IV.int IntKind.i64 (Prod.fst x % (12 : Int)))) ∧
 some (TV.v (IV.int IntKind.i64 (IntKind.wrap IntKind.i64 (Int.tdiv n (12 : Int)) % (1000 : Int)))) = some (TV.v (IV.int IntKind.i64 (Prod.fst (Prod.snd x)))) ∧
 some (TV.v (IV.bool true)) = some (TV.v (IV.bool (Prod.fst (Prod.snd (Prod.snd x))))) ∧
 some [IV.int IntKind.i64 (0 : Int), IV.int IntKind.i64 (0 : Int), IV.int IntKind.i64 (0 : Int), IV.int IntKind.i64 (0 : Int), IV.nilslice] =
 some [IV.int IntKind.i64 (0 : Int), IV.int IntKind.i64 (0 : Int), IV.int IntKind.i64 (0 : Int), IV.int IntKind.i64 (0 : Int), IV.nilslice] ∧
 h2 = Prod.snd (Prod.snd (Prod.snd x)) ∧
 (i64b (Prod.fst x) ∧
 ((0 : Int) ≤ Prod.fst (Prod.snd x) ∧ Prod.fst (Prod.snd x) < (1000 : Int)) ∧ (Prod.fst (Prod.snd (Prod.snd x)) = false → dp ≤ (2 : Int)) ∧ GH h id (Prod.snd (Prod.snd (Prod.snd x)))) ∧
 True)
 (∃ (x : Int × Int × Bool × Heap),
 some (TV.v (IV.ptr id (0 : Nat))) = some (TV.v (IV.ptr id (0 : Nat))) ∧
 some (TV.v (IV.int IntKind.i64 s)) = some (TV.v (IV.int IntKind.i64 s)) ∧
 some (TV.v (IV.int IntKind.i64 dp)) = some (TV.v (IV.int IntKind.i64 dp)) ∧
 some (TV.v (IV.int IntKind.i64 vs)) = some (TV.v (IV.int IntKind.i64 vs)) ∧
 some (TV.v (IV.bool st)) = some (TV.v (IV.bool st)) ∧
 some (TV.l (10 : Nat) (0 : Nat)) = some (TV.l (10 : Nat) (0 : Nat)) ∧
 some (TV.v (IV.int IntKind.i64 n)) = some (TV.v (IV.int IntKind.i64 (Prod.fst x))) ∧
 some (TV.v (IV.int IntKind.i64 (n % (12 : Int)))) = some (TV.v (IV.int IntKind.i64 (Prod.fst x % (12 : Int)))) ∧
 some (TV.v (IV.int IntKind.i64 (IntKind.wrap IntKind.i64 (Int.tdiv n (12 : Int)) % (1000 : Int)))) = some (TV.v (IV.int IntKind.i64 (Prod.fst (Prod.snd x)))) ∧
 some (TV.v (IV.bool (decide (n % (12 : Int) < (3 : Int))))) = some (TV.v (IV.bool (Prod.fst (Prod.snd (Prod.snd x))))) ∧
 some [IV.int IntKind.i64 (0 : Int), IV.int IntKind.i64 (0 : Int), IV.int IntKind.i64 (0 : Int), IV.int IntKind.i64 (0 : Int), IV.nilslice] =
 some [IV.int IntKind.i64 (0 : Int), IV.int IntKind.i64 (0 : Int), IV.int IntKind.i64 (0 : Int), IV.int IntKind.i64 (0 : Int), IV.nilslice] ∧
 h2 = Prod.snd (Prod.snd (Prod.snd x)) ∧
 (i64b (Prod.fst x) ∧
 ((0 : Int) ≤ Prod.fst (Prod.snd x) ∧ Prod.fst (Prod.snd x) < (1000 : Int)) ∧ (Prod.fst (Prod.snd (Prod.snd x)) = false → dp ≤ (2 : Int)) ∧ GH h id (Prod.snd (Prod.snd (Prod.snd x)))) ∧
 True) ∧
 ∀ (x : Int × Int × Bool × Heap) (b : FF),
 i64b (Prod.fst x) ∧ ((0 : Int) ≤ Prod.fst (Prod.snd x) ∧ Prod.fst (Prod.snd x) < (1000 : Int)) ∧ (Prod.fst (Prod.snd (Prod.snd x)) = false → dp ≤ (2 : Int)) ∧ GH h id (Prod.snd (Prod.snd (Prod.snd x))) →
 brS (Prod.fst (Prod.snd (Prod.snd x)))
 (brS (s == (2 : Int)) (Q (IV.agg [IV.int IntKind.i64 (1 : Int), IV.int IntKind.i64 (0 : Int), IV.int IntKind.i64 (0 : Int), IV.int IntKind.i64 (0 : Int), IV.nilslice]) (Prod.snd (Prod.snd (Prod.snd x))))
 (brS (Prod.fst x % (12 : Int) == (0 : Int))
 (brS (decide (dp > (0 : Int)))
 (i64b (Prod.fst x) ∧
 ∀ (w : Int), i64b w → Q (IV.agg [IV.int IntKind.i64 (0 : Int), IV.int IntKind.i64 (1 : Int), IV.int IntKind.i64 w, IV.int IntKind.i64 (0 : Int), IV.nilslice]) (Prod.snd (Prod.snd (Prod.snd x))))
 (brS st
 (needS (!(if IntKind.wrap IntKind.i64 (vs - (1 : Int)) > (1 : Int) then IntKind.wrap IntKind.i64 (vs - (1 : Int)) else (1 : Int)) == (0 : Int))
 (Q
 (IV.agg
 [IV.int IntKind.i64
 (IntKind.wrap IntKind.i64 ((2 : Int) + Int.tmod (Prod.fst (Prod.snd x)) (if IntKind.wrap IntKind.i64 (vs - (1 : Int)) > (1 : Int) then IntKind.wrap IntKind.i64 (vs - (1 : Int)) else (1 : Int)))),
 IV.int IntKind.i64 (0 : Int), IV.int IntKind.i64 (0 : Int), IV.int IntKind.i64 (0 : Int), IV.nilslice])
 (Prod.snd (Prod.snd (Prod.snd x)))))
 (needS (!vs == (0 : Int))
 (Q
 (IV.agg
 [IV.int IntKind.i64 (IntKind.wrap IntKind.i64 ((1 : Int) + Int.tmod (Prod.fst (Prod.snd x)) vs)), IV.int IntKind.i64 (0 : Int), IV.int IntKind.i64 (0 : Int), IV.int IntKind.i64 (0 : Int), IV.nilslice])
 (Prod.snd (Prod.snd (Prod.snd x)))))))
 (brS st
 (needS (!(if IntKind.wrap IntKind.i64 (vs - (1 : Int)) > (1 : Int) then IntKind.wrap IntKind.i64 (vs - (1 : Int)) else (1 : Int)) == (0 : Int))
 (Q
 (IV.agg
 [IV.int IntKind.i64
 (IntKind.wrap IntKind.i64 ((2 : Int) + Int.tmod (Prod.fst (Prod.snd x)) (if IntKind.wrap IntKind.i64 (vs - (1 : Int)) > (1 : Int) then IntKind.wrap IntKind.i64 (vs - (1 : Int)) else (1 : Int)))),
 IV.int IntKind.i64 (0 : Int), IV.int IntKind.i64 (0 : Int), IV.int IntKind.i64 (0 : Int), IV.nilslice])
 (Prod.snd (Prod.snd (Prod.snd x)))))
 (needS (!vs == (0 : Int))
 (Q
 (IV.agg
 [IV.int IntKind.i64 (IntKind.wrap IntKind.i64 ((1 : Int) + Int.tmod (Prod.fst (Prod.snd x)) vs)), IV.int IntKind.i64 (0 : Int), IV.int IntKind.i64 (0 : Int), IV.int IntKind.i64 (0 : Int), IV.nilslice])
 (Prod.snd (Prod.snd (Prod.snd x))))))))
 (brS (s == (2 : Int))
 (needS (decide ((0 : Int) ≤ Int.tmod (Prod.fst (Prod.snd x)) (3 : Int)) && decide (Int.tmod (Prod.fst (Prod.snd x)) (3 : Int) < (3 : Int)))
 (ldIS IntKind.i64 [IV.int IntKind.i64 (27 : Int), IV.int IntKind.i64 (28 : Int), IV.int IntKind.i64 (29 : Int)] (Int.toNat (Int.tmod (Prod.fst (Prod.snd x)) (3 : Int)) * (1 : Nat)) fun (n0 : Int) =>
 ∃ (x_1 : Int × Int × Heap),
 some (TV.v (IV.ptr id (0 : Nat))) = some (TV.v (IV.ptr id (0 : Nat))) ∧
 some (TV.v (IV.int IntKind.i64 dp)) = some (TV.v (IV.int IntKind.i64 dp)) ∧
 some (TV.v (IV.int IntKind.i64 vs)) = some (TV.v (IV.int IntKind.i64 vs)) ∧
 some (TV.v (IV.bool st)) = some (TV.v (IV.bool st)) ∧
 some (TV.l (10 : Nat) (0 : Nat)) = some (TV.l (10 : Nat) (0 : Nat)) ∧
 some (TV.v (IV.int IntKind.i64 (Prod.fst (Prod.snd x)))) = some (TV.v (IV.int IntKind.i64 (Prod.fst (Prod.snd x_1)))) ∧
 some (TV.l (14 : Nat) (0 : Nat)) = some (TV.l (14 : Nat) (0 : Nat)) ∧
 some [IV.int IntKind.i64 (0 : Int), IV.int IntKind.i64 (0 : Int), IV.int IntKind.i64 (0 : Int), IV.int IntKind.i64 (0 : Int), IV.nilslice] =
 some [IV.int IntKind.i64 (0 : Int), IV.int IntKind.i64 (0 : Int), IV.int IntKind.i64 (0 : Int), IV.int IntKind.i64 (0 : Int), IV.nilslice] ∧
 some [IV.int IntKind.i64 (0 : Int), IV.int IntKind.i64 n0, IV.int IntKind.i64 (0 : Int), IV.int IntKind.i64 (0 : Int), IV.nilslice] =
 some [IV.int IntKind.i64 (0 : Int), IV.int IntKind.i64 (Prod.fst x_1), IV.int IntKind.i64 (0 : Int), IV.int IntKind.i64 (0 : Int), IV.nilslice] ∧
 Prod.snd (Prod.snd (Prod.snd x)) = Prod.snd (Prod.snd x_1) ∧
 (dp ≤ (2 : Int) ∧
 ((1 : Int) ≤ Prod.fst x_1 ∧ Prod.fst x_1 ≤ (29 : Int)) ∧ ((0 : Int) ≤ Prod.fst (Prod.snd x_1) ∧ Prod.fst (Prod.snd x_1) < (1000 : Int)) ∧ GH h id (Prod.snd (Prod.snd x_1))) ∧
 True))
 (brS st
 (brS (decide (Prod.fst x % (12 : Int) > (9 : Int)))
 (∃ (x_1 : Int × Int × Heap),
 some (TV.v (IV.ptr id (0 : Nat))) = some (TV.v (IV.ptr id (0 : Nat))) ∧
 some (TV.v (IV.int IntKind.i64 dp)) = some (TV.v (IV.int IntKind.i64 dp)) ∧
 some (TV.v (IV.int IntKind.i64 vs)) = some (TV.v (IV.int IntKind.i64 vs)) ∧
 some (TV.v (IV.bool st)) = some (TV.v (IV.bool st)) ∧
 some (TV.l (10 : Nat) (0 : Nat)) = some (TV.l (10 : Nat) (0 : Nat)) ∧
 some (TV.v (IV.int IntKind.i64 (Prod.fst (Prod.snd x)))) = some (TV.v (IV.int IntKind.i64 (Prod.fst (Prod.snd x_1)))) ∧
 some (TV.l (14 : Nat) (0 : Nat)) = some (TV.l (14 : Nat) (0 : Nat)) ∧
 some [IV.int IntKind.i64 (0 : Int), IV.int IntKind.i64 (0 : Int), IV.int IntKind.i64 (0 : Int), IV.int IntKind.i64 (0 : Int), IV.nilslice] =
 some [IV.int IntKind.i64 (0 : Int), IV.int IntKind.i64 (0 : Int), IV.int IntKind.i64 (0 : Int), IV.int IntKind.i64 (0 : Int), IV.nilslice] ∧
 some [IV.int IntKind.i64 (0 : Int), IV.int IntKind.i64 (23 : Int), IV.int IntKind.i64 (0 : Int), IV.int IntKind.i64 (0 : Int), IV.nilslice] =
 some [IV.int IntKind.i64 (0 : Int), IV.int IntKind.i64 (Prod.fst x_1), IV.int IntKind.i64 (0 : Int), IV.int IntKind.i64 (0 : Int), IV.nilslice] ∧
 Prod.snd (Prod.snd (Prod.snd x)) = Prod.snd (Prod.snd x_1) ∧
 (dp ≤ (2 : Int) ∧
 ((1 : Int) ≤ Prod.fst x_1 ∧ Prod.fst x_1 ≤ (29 : Int)) ∧ ((0 : Int) ≤ Prod.fst (Prod.snd x_1) ∧ Prod.fst (Prod.snd x_1) < (1000 : Int)) ∧ GH h id (Prod.snd (Prod.snd x_1))) ∧
 True)
 (∃ (x_1 : Int × Int × Heap),
 some (TV.v (IV.ptr id (0 : Nat))) = some (TV.v (IV.ptr id (0 : Nat))) ∧
 some (TV.v (IV.int IntKind.i64 dp)) = some (TV.v (IV.int IntKind.i64 dp)) ∧
 some (TV.v (IV.int IntKind.i64 vs)) = some (TV.v (IV.int IntKind.i64 vs)) ∧
 some (TV.v (IV.bool st)) = some (TV.v (IV.bool st)) ∧
 some (TV.l (10 : Nat) (0 : Nat)) = some (TV.l (10 : Nat) (0 : Nat)) ∧
 some (TV.v (IV.int IntKind.i64 (Prod.fst (Prod.snd x)))) = some (TV.v (IV.int IntKind.i64 (Prod.fst (Prod.snd x_1)))) ∧
 some (TV.l (14 : Nat) (0 : Nat)) = some (TV.l (14 : Nat) (0 : Nat)) ∧
 some [IV.int IntKind.i64 (0 : Int), IV.int IntKind.i64 (0 : Int), IV.int IntKind.i64 (0 : Int), IV.int IntKind.i64 (0 : Int), IV.nilslice] =
 some [IV.int IntKind.i64 (0 : Int), IV.int IntKind.i64 (0 : Int), IV.int IntKind.i64 (0 : Int), IV.int IntKind.i64 (0 : Int), IV.nilslice] ∧
 some
 [IV.int IntKind.i64 (0 : Int), IV.int IntKind.i64 (IntKind.wrap IntKind.i64 ((4 : Int) + Int.tmod (Prod.fst (Prod.snd x)) (19 : Int))), IV.int IntKind.i64 (0 : Int),
 IV.int IntKind.i64 (0 : Int), IV.nilslice] =
 some [IV.int IntKind.i64 (0 : Int), IV.int IntKind.i64 (Prod.fst x_1), IV.int IntKind.i64 (0 : Int), IV.int IntKind.i64 (0 : Int), IV.nilslice] ∧
 Prod.snd (Prod.snd (Prod.snd x)) = Prod.snd (Prod.snd x_1) ∧
 (dp ≤ (2 : Int) ∧
 ((1 : Int) ≤ Prod.fst x_1 ∧ Prod.fst x_1 ≤ (29 : Int)) ∧ ((0 : Int) ≤ Prod.fst (Prod.snd x_1) ∧ Prod.fst (Prod.snd x_1) < (1000 : Int)) ∧ GH h id (Prod.snd (Prod.snd x_1))) ∧
 True))
 (∃ (x_1 : Int × Int × Heap),
 some (TV.v (IV.ptr id (0 : Nat))) = some (TV.v (IV.ptr id (0 : Nat))) ∧
 some (TV.v (IV.int IntKind.i64 dp)) = some (TV.v (IV.int IntKind.i64 dp)) ∧
 some (TV.v (IV.int IntKind.i64 vs)) = some (TV.v (IV.int IntKind.i64 vs)) ∧
 some (TV.v (IV.bool st)) = some (TV.v (IV.bool st)) ∧
 some (TV.l (10 : Nat) (0 : Nat)) = some (TV.l (10 : Nat) (0 : Nat)) ∧
 some (TV.v (IV.int IntKind.i64 (Prod.fst (Prod.snd x)))) = some (TV.v (IV.int IntKind.i64 (Prod.fst (Prod.snd x_1)))) ∧
 some (TV.l (14 : Nat) (0 : Nat)) = some (TV.l (14 : Nat) (0 : Nat)) ∧
 some [IV.int IntKind.i64 (0 : Int), IV.int IntKind.i64 (0 : Int), IV.int IntKind.i64 (0 : Int), IV.int IntKind.i64 (0 : Int), IV.nilslice] =
 some [IV.int IntKind.i64 (0 : Int), IV.int IntKind.i64 (0 : Int), IV.int IntKind.i64 (0 : Int), IV.int IntKind.i64 (0 : Int), IV.nilslice] ∧
 some
 [IV.int IntKind.i64 (0 : Int), IV.int IntKind.i64 (IntKind.wrap IntKind.i64 ((4 : Int) + Int.tmod (Prod.fst (Prod.snd x)) (19 : Int))), IV.int IntKind.i64 (0 : Int),
 IV.int IntKind.i64 (0 : Int), IV.nilslice] =
 some [IV.int IntKind.i64 (0 : Int), IV.int IntKind.i64 (Prod.fst x_1), IV.int IntKind.i64 (0 : Int), IV.int IntKind.i64 (0 : Int), IV.nilslice] ∧
 Prod.snd (Prod.snd (Prod.snd x)) = Prod.snd (Prod.snd x_1) ∧
 (dp ≤ (2 : Int) ∧
 ((1 : Int) ≤ Prod.fst x_1 ∧ Prod.fst x_1 ≤ (29 : Int)) ∧ ((0 : Int) ≤ Prod.fst (Prod.snd x_1) ∧ Prod.fst (Prod.snd x_1) < (1000 : Int)) ∧ GH h id (Prod.snd (Prod.snd x_1))) ∧
 True)))) ∧
 (∀ (x : Int × Int × Heap) (b : FF),
 dp ≤ (2 : Int) ∧ ((1 : Int) ≤ Prod.fst x ∧ Prod.fst x ≤ (29 : Int)) ∧ ((0 : Int) ≤ Prod.fst (Prod.snd x) ∧ Prod.fst (Prod.snd x) < (1000 : Int)) ∧ GH h id (Prod.snd (Prod.snd x)) →
 ((∃ (x_1 : Int × Int × Heap),
 some (TV.v (IV.ptr id (0 : Nat))) = some (TV.v (IV.ptr id (0 : Nat))) ∧
 some (TV.v (IV.int IntKind.i64 dp)) = some (TV.v (IV.int IntKind.i64 dp)) ∧
 some (TV.v (IV.int IntKind.i64 vs)) = some (TV.v (IV.int IntKind.i64 vs)) ∧
 some (TV.v (IV.bool st)) = some (TV.v (IV.bool st)) ∧
 some (TV.l (10 : Nat) (0 : Nat)) = some (TV.l (10 : Nat) (0 : Nat)) ∧
 some (TV.v (IV.int IntKind.i64 (Prod.fst (Prod.snd x)))) = some (TV.v (IV.int IntKind.i64 (Prod.fst (Prod.snd x_1)))) ∧
 some (TV.l (14 : Nat) (0 : Nat)) = some (TV.l (14 : Nat) (0 : Nat)) ∧
 some (TV.v (IV.int IntKind.i64 (ar (Prod.fst x)))) = some (TV.v (IV.int IntKind.i64 (ar (Prod.fst x_1)))) ∧
 some (TV.v (IV.int IntKind.i64 (0 : Int))) = some (TV.v (IV.int IntKind.i64 (0 : Int))) ∧
 some [IV.int IntKind.i64 (0 : Int), IV.int IntKind.i64 (0 : Int), IV.int IntKind.i64 (0 : Int), IV.int IntKind.i64 (0 : Int), IV.nilslice] =
 some [IV.int IntKind.i64 (0 : Int), IV.int IntKind.i64 (0 : Int), IV.int IntKind.i64 (0 : Int), IV.int IntKind.i64 (0 : Int), IV.nilslice] ∧
 some [IV.int IntKind.i64 (0 : Int), IV.int IntKind.i64 (Prod.fst x), IV.int IntKind.i64 (0 : Int), IV.int IntKind.i64 (0 : Int), IV.nilslice] =
 some [IV.int IntKind.i64 (0 : Int), IV.int IntKind.i64 (Prod.fst x_1), IV.int IntKind.i64 (0 : Int), IV.int IntKind.i64 (0 : Int), IV.nilslice] ∧
 Prod.snd (Prod.snd x) = Prod.snd (Prod.snd x_1) ∧
 (dp ≤ (2 : Int) ∧ ((1 : Int) ≤ Prod.fst x_1 ∧ Prod.fst x_1 ≤ (29 : Int)) ∧ ((0 : Int) ≤ Prod.fst (Prod.snd x_1) ∧ Prod.fst (Prod.snd x_1) < (1000 : Int)) ∧ GH h id (Prod.snd (Prod.snd x_1))) ∧ True) ∨
 ∃ (x_1 : Int × Int × Heap × List T × Nat),
 some (TV.v (IV.ptr id (0 : Nat))) = some (TV.v (IV.ptr id (0 : Nat))) ∧
 some (TV.v (IV.int IntKind.i64 dp)) = some (TV.v (IV.int IntKind.i64 dp)) ∧
 some (TV.v (IV.int IntKind.i64 vs)) = some (TV.v (IV.int IntKind.i64 vs)) ∧
 some (TV.v (IV.bool st)) = some (TV.v (IV.bool st)) ∧
 some (TV.l (10 : Nat) (0 : Nat)) = some (TV.l (10 : Nat) (0 : Nat)) ∧
 some (TV.v (IV.int IntKind.i64 (Prod.fst (Prod.snd x)))) = some (TV.v (IV.int IntKind.i64 (Prod.fst (Prod.snd x_1)))) ∧
 some (TV.l (14 : Nat) (0 : Nat)) = some (TV.l (14 : Nat) (0 : Nat)) ∧
 some (TV.v (IV.int IntKind.i64 (ar (Prod.fst x)))) = some (TV.v (IV.int IntKind.i64 (ar (Prod.fst x_1)))) ∧
 some (TV.v (IV.int IntKind.i64 (0 : Int))) = some (TV.v (IV.int IntKind.i64 (↑(List.length (Prod.fst (Prod.snd (Prod.snd (Prod.snd x_1))))) : Int))) ∧
 some [IV.int IntKind.i64 (0 : Int), IV.int IntKind.i64 (0 : Int), IV.int IntKind.i64 (0 : Int), IV.int IntKind.i64 (0 : Int), IV.nilslice] =
 some [IV.int IntKind.i64 (0 : Int), IV.int IntKind.i64 (0 : Int), IV.int IntKind.i64 (0 : Int), IV.int IntKind.i64 (0 : Int), IV.nilslice] ∧
 some [IV.int IntKind.i64 (0 : Int), IV.int IntKind.i64 (Prod.fst x), IV.int IntKind.i64 (0 : Int), IV.int IntKind.i64 (0 : Int), IV.nilslice] =
 some
 [IV.int IntKind.i64 (0 : Int), IV.int IntKind.i64 (Prod.fst x_1), IV.int IntKind.i64 (0 : Int), IV.int IntKind.i64 (0 : Int),
 IV.vslice (some (Prod.snd (Prod.snd (Prod.snd (Prod.snd x_1))))) (List.length (Prod.fst (Prod.snd (Prod.snd (Prod.snd x_1)))) * (5 : Nat))
 (List.length (Prod.fst (Prod.snd (Prod.snd (Prod.snd x_1))))) (5 : Nat) (cTs (Prod.fst (Prod.snd (Prod.snd (Prod.snd x_1)))))] ∧
 Prod.snd (Prod.snd x) = Prod.fst (Prod.snd (Prod.snd x_1)) ∧
 (dp ≤ (2 : Int) ∧
 ((1 : Int) ≤ Prod.fst x_1 ∧ Prod.fst x_1 ≤ (29 : Int)) ∧
 ((0 : Int) ≤ Prod.fst (Prod.snd x_1) ∧ Prod.fst (Prod.snd x_1) < (1000 : Int)) ∧
 GH h id (Prod.fst (Prod.snd (Prod.snd x_1))) ∧
 (Heap.get (Prod.fst (Prod.snd (Prod.snd x_1))) (Prod.snd (Prod.snd (Prod.snd (Prod.snd x_1)))) = IObj.tip (List.length (Prod.fst (Prod.snd (Prod.snd (Prod.snd x_1)))) * (5 : Nat)) ∧
 Prod.snd (Prod.snd (Prod.snd (Prod.snd x_1))) < Heap.next (Prod.fst (Prod.snd (Prod.snd x_1))) ∧
 Prod.snd (Prod.snd (Prod.snd (Prod.snd x_1))) ≠ id ∧ Heap.next h ≤ Prod.snd (Prod.snd (Prod.snd (Prod.snd x_1)))) ∧
 ((0 : Nat) < List.length (Prod.fst (Prod.snd (Prod.snd (Prod.snd x_1)))) ∧ (↑(List.length (Prod.fst (Prod.snd (Prod.snd (Prod.snd x_1))))) : Int) ≤ ar (Prod.fst x_1)) ∧
 oks (Prod.fst (Prod.snd (Prod.snd (Prod.snd x_1)))) ∧
 nums (Prod.fst (Prod.snd (Prod.snd (Prod.snd x_1)))) ≤ List.length (Prod.fst (Prod.snd (Prod.snd (Prod.snd x_1)))) * bnd (Int.toNat ((2 : Int) - dp))) ∧
 True) ∧
 (∀ (x : Int × Int × Heap) (b : FF),
 dp ≤ (2 : Int) ∧ ((1 : Int) ≤ Prod.fst x ∧ Prod.fst x ≤ (29 : Int)) ∧ ((0 : Int) ≤ Prod.fst (Prod.snd x) ∧ Prod.fst (Prod.snd x) < (1000 : Int)) ∧ GH h id (Prod.snd (Prod.snd x)) →
 brS (decide ((0 : Int) < ar (Prod.fst x)))
 (RD (Prod.snd (Prod.snd x)) id ∧
 ((0 : Int) ≤ IntKind.wrap IntKind.i64 (dp + (1 : Int)) ∧ IntKind.wrap IntKind.i64 (dp + (1 : Int)) ≤ (3 : Int) ∧ (3 : Int) - IntKind.wrap IntKind.i64 (dp + (1 : Int)) < (↑dd : Int)) ∧
 ((1 : Int) ≤ vs ∧ vs ≤ (4 : Int)) ∧
 (∀ (v op im iv : Int) (h2 : Heap),
 i64b v ∧ i64b op ∧ i64b im ∧ i64b iv →
 GH (Prod.snd (Prod.snd x)) id h2 →
 (∃ (x_1 : Int × Int × Heap),
 some (TV.v (IV.ptr id (0 : Nat))) = some (TV.v (IV.ptr id (0 : Nat))) ∧
 some (TV.v (IV.int IntKind.i64 dp)) = some (TV.v (IV.int IntKind.i64 dp)) ∧
 some (TV.v (IV.int IntKind.i64 vs)) = some (TV.v (IV.int IntKind.i64 vs)) ∧
 some (TV.v (IV.bool st)) = some (TV.v (IV.bool st)) ∧
 some (TV.l (10 : Nat) (0 : Nat)) = some (TV.l (10 : Nat) (0 : Nat)) ∧
 some (TV.v (IV.int IntKind.i64 (Prod.fst (Prod.snd x)))) = some (TV.v (IV.int IntKind.i64 (Prod.fst (Prod.snd x_1)))) ∧
 some (TV.l (14 : Nat) (0 : Nat)) = some (TV.l (14 : Nat) (0 : Nat)) ∧
 some (TV.v (IV.int IntKind.i64 (ar (Prod.fst x)))) = some (TV.v (IV.int IntKind.i64 (ar (Prod.fst x_1)))) ∧
 some (TV.v (IV.int IntKind.i64 (1 : Int))) = some (TV.v (IV.int IntKind.i64 (0 : Int))) ∧
 some [IV.int IntKind.i64 (0 : Int), IV.int IntKind.i64 (0 : Int), IV.int IntKind.i64 (0 : Int), IV.int IntKind.i64 (0 : Int), IV.nilslice] =
 some [IV.int IntKind.i64 (0 : Int), IV.int IntKind.i64 (0 : Int), IV.int IntKind.i64 (0 : Int), IV.int IntKind.i64 (0 : Int), IV.nilslice] ∧
 some
 [IV.int IntKind.i64 (0 : Int), IV.int IntKind.i64 (Prod.fst x), IV.int IntKind.i64 (0 : Int), IV.int IntKind.i64 (0 : Int),
 IV.vslice (some (Heap.next h2)) (5 : Nat) (1 : Nat) (5 : Nat)
 [IV.int IntKind.i64 v, IV.int IntKind.i64 op, IV.int IntKind.i64 im, IV.int IntKind.i64 iv, IV.vslice none (0 : Nat) (0 : Nat) (5 : Nat) []]] =
 some [IV.int IntKind.i64 (0 : Int), IV.int IntKind.i64 (Prod.fst x_1), IV.int IntKind.i64 (0 : Int), IV.int IntKind.i64 (0 : Int), IV.nilslice] ∧
 Heap.push h2 (IObj.tip (5 : Nat)) = Prod.snd (Prod.snd x_1) ∧
 (dp ≤ (2 : Int) ∧
 ((1 : Int) ≤ Prod.fst x_1 ∧ Prod.fst x_1 ≤ (29 : Int)) ∧ ((0 : Int) ≤ Prod.fst (Prod.snd x_1) ∧ Prod.fst (Prod.snd x_1) < (1000 : Int)) ∧ GH h id (Prod.snd (Prod.snd x_1))) ∧
 Int.toNat (ar (Prod.fst x_1)) < Int.toNat (ar (Prod.fst x))) ∨
 ∃ (x_1 : Int × Int × Heap × List T × Nat),
 some (TV.v (IV.ptr id (0 : Nat))) = some (TV.v (IV.ptr id (0 : Nat))) ∧
 some (TV.v (IV.int IntKind.i64 dp)) = some (TV.v (IV.int IntKind.i64 dp)) ∧
 some (TV.v (IV.int IntKind.i64 vs)) = some (TV.v (IV.int IntKind.i64 vs)) ∧
 some (TV.v (IV.bool st)) = some (TV.v (IV.bool st)) ∧
 some (TV.l (10 : Nat) (0 : Nat)) = some (TV.l (10 : Nat) (0 : Nat)) ∧
 some (TV.v (IV.int IntKind.i64 (Prod.fst (Prod.snd x)))) = some (TV.v (IV.int IntKind.i64 (Prod.fst (Prod.snd x_1)))) ∧
 some (TV.l (14 : Nat) (0 : Nat)) = some (TV.l (14 : Nat) (0 : Nat)) ∧
 some (TV.v (IV.int IntKind.i64 (ar (Prod.fst x)))) = some (TV.v (IV.int IntKind.i64 (ar (Prod.fst x_1)))) ∧
 some (TV.v (IV.int IntKind.i64 (1 : Int))) = some (TV.v (IV.int IntKind.i64 (↑(List.length (Prod.fst (Prod.snd (Prod.snd (Prod.snd x_1))))) : Int))) ∧
 some [IV.int IntKind.i64 (0 : Int), IV.int IntKind.i64 (0 : Int), IV.int IntKind.i64 (0 : Int), IV.int IntKind.i64 (0 : Int), IV.nilslice] =
 some [IV.int IntKind.i64 (0 : Int), IV.int IntKind.i64 (0 : Int), IV.int IntKind.i64 (0 : Int), IV.int IntKind.i64 (0 : Int), IV.nilslice] ∧
 some
 [IV.int IntKind.i64 (0 : Int), IV.int IntKind.i64 (Prod.fst x), IV.int IntKind.i64 (0 : Int), IV.int IntKind.i64 (0 : Int),
 IV.vslice (some (Heap.next h2)) (5 : Nat) (1 : Nat) (5 : Nat)
 [IV.int IntKind.i64 v, IV.int IntKind.i64 op, IV.int IntKind.i64 im, IV.int IntKind.i64 iv, IV.vslice none (0 : Nat) (0 : Nat) (5 : Nat) []]] =
 some
 [IV.int IntKind.i64 (0 : Int), IV.int IntKind.i64 (Prod.fst x_1), IV.int IntKind.i64 (0 : Int), IV.int IntKind.i64 (0 : Int),
 IV.vslice (some (Prod.snd (Prod.snd (Prod.snd (Prod.snd x_1))))) (List.length (Prod.fst (Prod.snd (Prod.snd (Prod.snd x_1)))) * (5 : Nat))
 (List.length (Prod.fst (Prod.snd (Prod.snd (Prod.snd x_1))))) (5 : Nat) (cTs (Prod.fst (Prod.snd (Prod.snd (Prod.snd x_1)))))] ∧
 Heap.push h2 (IObj.tip (5 : Nat)) = Prod.fst (Prod.snd (Prod.snd x_1)) ∧
 (dp ≤ (2 : Int) ∧
 ((1 : Int) ≤ Prod.fst x_1 ∧ Prod.fst x_1 ≤ (29 : Int)) ∧
 ((0 : Int) ≤ Prod.fst (Prod.snd x_1) ∧ Prod.fst (Prod.snd x_1) < (1000 : Int)) ∧
 GH h id (Prod.fst (Prod.snd (Prod.snd x_1))) ∧
 (Heap.get (Prod.fst (Prod.snd (Prod.snd x_1))) (Prod.snd (Prod.snd (Prod.snd (Prod.snd x_1)))) =
 IObj.tip (List.length (Prod.fst (Prod.snd (Prod.snd (Prod.snd x_1)))) * (5 : Nat)) ∧
 Prod.snd (Prod.snd (Prod.snd (Prod.snd x_1))) < Heap.next (Prod.fst (Prod.snd (Prod.snd x_1))) ∧
 Prod.snd (Prod.snd (Prod.snd (Prod.snd x_1))) ≠ id ∧ Heap.next h ≤ Prod.snd (Prod.snd (Prod.snd (Prod.snd x_1)))) ∧
 ((0 : Nat) < List.length (Prod.fst (Prod.snd (Prod.snd (Prod.snd x_1)))) ∧ (↑(List.length (Prod.fst (Prod.snd (Prod.snd (Prod.snd x_1))))) : Int) ≤ ar (Prod.fst x_1)) ∧
 oks (Prod.fst (Prod.snd (Prod.snd (Prod.snd x_1)))) ∧
 nums (Prod.fst (Prod.snd (Prod.snd (Prod.snd x_1)))) ≤ List.length (Prod.fst (Prod.snd (Prod.snd (Prod.snd x_1)))) * bnd (Int.toNat ((2 : Int) - dp))) ∧
 Int.toNat (ar (Prod.fst x_1)) - List.length (Prod.fst (Prod.snd (Prod.snd (Prod.snd x_1)))) < Int.toNat (ar (Prod.fst x))) ∧
 ∀ (v op im iv : Int) (ks : List T) (io : Option Nat) (e : Nat) (h2 : Heap),
 i64b v ∧ i64b op ∧ i64b im ∧ i64b iv →
 oks ks →
 nums ks + (1 : Nat) ≤ bnd (Int.toNat ((3 : Int) - IntKind.wrap IntKind.i64 (dp + (1 : Int)))) →
 GH (Prod.snd (Prod.snd x)) id h2 →
 (∃ (x_1 : Int × Int × Heap),
 some (TV.v (IV.ptr id (0 : Nat))) = some (TV.v (IV.ptr id (0 : Nat))) ∧
 some (TV.v (IV.int IntKind.i64 dp)) = some (TV.v (IV.int IntKind.i64 dp)) ∧
 some (TV.v (IV.int IntKind.i64 vs)) = some (TV.v (IV.int IntKind.i64 vs)) ∧
 some (TV.v (IV.bool st)) = some (TV.v (IV.bool st)) ∧
 some (TV.l (10 : Nat) (0 : Nat)) = some (TV.l (10 : Nat) (0 : Nat)) ∧
 some (TV.v (IV.int IntKind.i64 (Prod.fst (Prod.snd x)))) = some (TV.v (IV.int IntKind.i64 (Prod.fst (Prod.snd x_1)))) ∧
 some (TV.l (14 : Nat) (0 : Nat)) = some (TV.l (14 : Nat) (0 : Nat)) ∧
 some (TV.v (IV.int IntKind.i64 (ar (Prod.fst x)))) = some (TV.v (IV.int IntKind.i64 (ar (Prod.fst x_1)))) ∧
 some (TV.v (IV.int IntKind.i64 (1 : Int))) = some (TV.v (IV.int IntKind.i64 (0 : Int))) ∧
 some [IV.int IntKind.i64 (0 : Int), IV.int IntKind.i64 (0 : Int), IV.int IntKind.i64 (0 : Int), IV.int IntKind.i64 (0 : Int), IV.nilslice] =
 some [IV.int IntKind.i64 (0 : Int), IV.int IntKind.i64 (0 : Int), IV.int IntKind.i64 (0 : Int), IV.int IntKind.i64 (0 : Int), IV.nilslice] ∧
 some
 [IV.int IntKind.i64 (0 : Int), IV.int IntKind.i64 (Prod.fst x), IV.int IntKind.i64 (0 : Int), IV.int IntKind.i64 (0 : Int),
 IV.vslice (some (Heap.next h2)) (5 : Nat) (1 : Nat) (5 : Nat)
 [IV.int IntKind.i64 v, IV.int IntKind.i64 op, IV.int IntKind.i64 im, IV.int IntKind.i64 iv, IV.vslice none (0 : Nat) (List.length ks) (5 : Nat) (cTs ks)]] =
 some [IV.int IntKind.i64 (0 : Int), IV.int IntKind.i64 (Prod.fst x_1), IV.int IntKind.i64 (0 : Int), IV.int IntKind.i64 (0 : Int), IV.nilslice] ∧
 Heap.push h2 (IObj.tip (5 : Nat)) = Prod.snd (Prod.snd x_1) ∧
 (dp ≤ (2 : Int) ∧
 ((1 : Int) ≤ Prod.fst x_1 ∧ Prod.fst x_1 ≤ (29 : Int)) ∧
 ((0 : Int) ≤ Prod.fst (Prod.snd x_1) ∧ Prod.fst (Prod.snd x_1) < (1000 : Int)) ∧ GH h id (Prod.snd (Prod.snd x_1))) ∧
 Int.toNat (ar (Prod.fst x_1)) < Int.toNat (ar (Prod.fst x))) ∨
 ∃ (x_1 : Int × Int × Heap × List T × Nat),
 some (TV.v (IV.ptr id (0 : Nat))) = some (TV.v (IV.ptr id (0 : Nat))) ∧
 some (TV.v (IV.int IntKind.i64 dp)) = some (TV.v (IV.int IntKind.i64 dp)) ∧
 some (TV.v (IV.int IntKind.i64 vs)) = some (TV.v (IV.int IntKind.i64 vs)) ∧
 some (TV.v (IV.bool st)) = some (TV.v (IV.bool st)) ∧
 some (TV.l (10 : Nat) (0 : Nat)) = some (TV.l (10 : Nat) (0 : Nat)) ∧
 some (TV.v (IV.int IntKind.i64 (Prod.fst (Prod.snd x)))) = some (TV.v (IV.int IntKind.i64 (Prod.fst (Prod.snd x_1)))) ∧
 some (TV.l (14 : Nat) (0 : Nat)) = some (TV.l (14 : Nat) (0 : Nat)) ∧
 some (TV.v (IV.int IntKind.i64 (ar (Prod.fst x)))) = some (TV.v (IV.int IntKind.i64 (ar (Prod.fst x_1)))) ∧
 some (TV.v (IV.int IntKind.i64 (1 : Int))) = some (TV.v (IV.int IntKind.i64 (↑(List.length (Prod.fst (Prod.snd (Prod.snd (Prod.snd x_1))))) : Int))) ∧
 some [IV.int IntKind.i64 (0 : Int), IV.int IntKind.i64 (0 : Int), IV.int IntKind.i64 (0 : Int), IV.int IntKind.i64 (0 : Int), IV.nilslice] =
 some [IV.int IntKind.i64 (0 : Int), IV.int IntKind.i64 (0 : Int), IV.int IntKind.i64 (0 : Int), IV.int IntKind.i64 (0 : Int), IV.nilslice] ∧
 some
 [IV.int IntKind.i64 (0 : Int), IV.int IntKind.i64 (Prod.fst x), IV.int IntKind.i64 (0 : Int), IV.int IntKind.i64 (0 : Int),
 IV.vslice (some (Heap.next h2)) (5 : Nat) (1 : Nat) (5 : Nat)
 [IV.int IntKind.i64 v, IV.int IntKind.i64 op, IV.int IntKind.i64 im, IV.int IntKind.i64 iv, IV.vslice none (0 : Nat) (List.length ks) (5 : Nat) (cTs ks)]] =
 some
 [IV.int IntKind.i64 (0 : Int), IV.int IntKind.i64 (Prod.fst x_1), IV.int IntKind.i64 (0 : Int), IV.int IntKind.i64 (0 : Int),
 IV.vslice (some (Prod.snd (Prod.snd (Prod.snd (Prod.snd x_1))))) (List.length (Prod.fst (Prod.snd (Prod.snd (Prod.snd x_1)))) * (5 : Nat))
 (List.length (Prod.fst (Prod.snd (Prod.snd (Prod.snd x_1))))) (5 : Nat) (cTs (Prod.fst (Prod.snd (Prod.snd (Prod.snd x_1)))))] ∧
 Heap.push h2 (IObj.tip (5 : Nat)) = Prod.fst (Prod.snd (Prod.snd x_1)) ∧
 (dp ≤ (2 : Int) ∧
 ((1 : Int) ≤ Prod.fst x_1 ∧ Prod.fst x_1 ≤ (29 : Int)) ∧
 ((0 : Int) ≤ Prod.fst (Prod.snd x_1) ∧ Prod.fst (Prod.snd x_1) < (1000 : Int)) ∧
 GH h id (Prod.fst (Prod.snd (Prod.snd x_1))) ∧
 (Heap.get (Prod.fst (Prod.snd (Prod.snd x_1))) (Prod.snd (Prod.snd (Prod.snd (Prod.snd x_1)))) =
 IObj.tip (List.length (Prod.fst (Prod.snd (Prod.snd (Prod.snd x_1)))) * (5 : Nat)) ∧
 Prod.snd (Prod.snd (Prod.snd (Prod.snd x_1))) < Heap.next (Prod.fst (Prod.snd (Prod.snd x_1))) ∧
 Prod.snd (Prod.snd (Prod.snd (Prod.snd x_1))) ≠ id ∧ Heap.next h ≤ Prod.snd (Prod.snd (Prod.snd (Prod.snd x_1)))) ∧
 ((0 : Nat) < List.length (Prod.fst (Prod.snd (Prod.snd (Prod.snd x_1)))) ∧
 (↑(List.length (Prod.fst (Prod.snd (Prod.snd (Prod.snd x_1))))) : Int) ≤ ar (Prod.fst x_1)) ∧
 oks (Prod.fst (Prod.snd (Prod.snd (Prod.snd x_1)))) ∧
 nums (Prod.fst (Prod.snd (Prod.snd (Prod.snd x_1)))) ≤ List.length (Prod.fst (Prod.snd (Prod.snd (Prod.snd x_1)))) * bnd (Int.toNat ((2 : Int) - dp))) ∧
 Int.toNat (ar (Prod.fst x_1)) - List.length (Prod.fst (Prod.snd (Prod.snd (Prod.snd x_1)))) < Int.toNat (ar (Prod.fst x)))
 (brS (hasImm (Prod.fst x))
 (brS (Int.tmod (Prod.fst (Prod.snd x)) (5 : Int) == (0 : Int))
 (brS (Prod.fst x == (27 : Int)) (Q (IV.agg [IV.int IntKind.i64 (0 : Int), IV.int IntKind.i64 (Prod.fst x), IV.int IntKind.i64 (1 : Int), IV.int IntKind.i64 (0 : Int), IV.nilslice]) (Prod.snd (Prod.snd x)))
 (Q
 (IV.agg
 [IV.int IntKind.i64 (0 : Int), IV.int IntKind.i64 (Prod.fst x), IV.int IntKind.i64 (IntKind.wrap IntKind.i64 ((1 : Int) - Int.tmod (Prod.fst (Prod.snd x)) (2 : Int))), IV.int IntKind.i64 (0 : Int), IV.nilslice])
 (Prod.snd (Prod.snd x))))
 (Q
 (IV.agg
 [IV.int IntKind.i64 (0 : Int), IV.int IntKind.i64 (Prod.fst x), IV.int IntKind.i64 (0 : Int), IV.int IntKind.i64 (IntKind.wrap IntKind.i64 ((1 : Int) + Int.tmod (Prod.fst (Prod.snd x)) (2 : Int))), IV.nilslice])
 (Prod.snd (Prod.snd x))))
 (Q (IV.agg [IV.int IntKind.i64 (0 : Int), IV.int IntKind.i64 (Prod.fst x), IV.int IntKind.i64 (0 : Int), IV.int IntKind.i64 (0 : Int), IV.nilslice]) (Prod.snd (Prod.snd x))))) ∧
 ∀ (x : Int × Int × Heap × List T × Nat) (b : FF),
 dp ≤ (2 : Int) ∧
 ((1 : Int) ≤ Prod.fst x ∧ Prod.fst x ≤ (29 : Int)) ∧
 ((0 : Int) ≤ Prod.fst (Prod.snd x) ∧ Prod.fst (Prod.snd x) < (1000 : Int)) ∧
 GH h id (Prod.fst (Prod.snd (Prod.snd x))) ∧
 (Heap.get (Prod.fst (Prod.snd (Prod.snd x))) (Prod.snd (Prod.snd (Prod.snd (Prod.snd x)))) = IObj.tip (List.length (Prod.fst (Prod.snd (Prod.snd (Prod.snd x)))) * (5 : Nat)) ∧
 Prod.snd (Prod.snd (Prod.snd (Prod.snd x))) < Heap.next (Prod.fst (Prod.snd (Prod.snd x))) ∧ Prod.snd (Prod.snd (Prod.snd (Prod.snd x))) ≠ id ∧ Heap.next h ≤ Prod.snd (Prod.snd (Prod.snd (Prod.snd x)))) ∧
 ((0 : Nat) < List.length (Prod.fst (Prod.snd (Prod.snd (Prod.snd x)))) ∧ (↑(List.length (Prod.fst (Prod.snd (Prod.snd (Prod.snd x))))) : Int) ≤ ar (Prod.fst x)) ∧
 oks (Prod.fst (Prod.snd (Prod.snd (Prod.snd x)))) ∧ nums (Prod.fst (Prod.snd (Prod.snd (Prod.snd x)))) ≤ List.length (Prod.fst (Prod.snd (Prod.snd (Prod.snd x)))) * bnd (Int.toNat ((2 : Int) - dp)) →
 brS (decide ((↑(List.length (Prod.fst (Prod.snd (Prod.snd (Prod.snd x))))) : Int) < ar (Prod.fst x)))
 (RD (Prod.fst (Prod.snd (Prod.snd x))) id ∧
 ((0 : Int) ≤ IntKind.wrap IntKind.i64 (dp + (1 : Int)) ∧ IntKind.wrap IntKind.i64 (dp + (1 : Int)) ≤ (3 : Int) ∧ (3 : Int) - IntKind.wrap IntKind.i64 (dp + (1 : Int)) < (↑dd : Int)) ∧
 ((1 : Int) ≤ vs ∧ vs ≤ (4 : Int)) ∧
 (∀ (v op im iv : Int) (h2 : Heap),
 i64b v ∧ i64b op ∧ i64b im ∧ i64b iv →
 GH (Prod.fst (Prod.snd (Prod.snd x))) id h2 →
 tipS h2 (Prod.snd (Prod.snd (Prod.snd (Prod.snd x)))) fun (m1 : Nat) =>
 needS
 (Nat.beq m1 (List.length (Prod.fst (Prod.snd (Prod.snd (Prod.snd x)))) * (5 : Nat)) &&
 Nat.ble ((List.length (Prod.fst (Prod.snd (Prod.snd (Prod.snd x)))) + (1 : Nat)) * (56 : Nat)) (140737488355328 : Nat))
 ((∃ (x_1 : Int × Int × Heap),
 some (TV.v (IV.ptr id (0 : Nat))) = some (TV.v (IV.ptr id (0 : Nat))) ∧
 some (TV.v (IV.int IntKind.i64 dp)) = some (TV.v (IV.int IntKind.i64 dp)) ∧
 some (TV.v (IV.int IntKind.i64 vs)) = some (TV.v (IV.int IntKind.i64 vs)) ∧
 some (TV.v (IV.bool st)) = some (TV.v (IV.bool st)) ∧
 some (TV.l (10 : Nat) (0 : Nat)) = some (TV.l (10 : Nat) (0 : Nat)) ∧
 some (TV.v (IV.int IntKind.i64 (Prod.fst (Prod.snd x)))) = some (TV.v (IV.int IntKind.i64 (Prod.fst (Prod.snd x_1)))) ∧
 some (TV.l (14 : Nat) (0 : Nat)) = some (TV.l (14 : Nat) (0 : Nat)) ∧
 some (TV.v (IV.int IntKind.i64 (ar (Prod.fst x)))) = some (TV.v (IV.int IntKind.i64 (ar (Prod.fst x_1)))) ∧
 some (TV.v (IV.int IntKind.i64 (IntKind.wrap IntKind.i64 ((↑(List.length (Prod.fst (Prod.snd (Prod.snd (Prod.snd x))))) : Int) + (1 : Int))))) =
 some (TV.v (IV.int IntKind.i64 (0 : Int))) ∧
 some [IV.int IntKind.i64 (0 : Int), IV.int IntKind.i64 (0 : Int), IV.int IntKind.i64 (0 : Int), IV.int IntKind.i64 (0 : Int), IV.nilslice] =
 some [IV.int IntKind.i64 (0 : Int), IV.int IntKind.i64 (0 : Int), IV.int IntKind.i64 (0 : Int), IV.int IntKind.i64 (0 : Int), IV.nilslice] ∧
 some
 [IV.int IntKind.i64 (0 : Int), IV.int IntKind.i64 (Prod.fst x), IV.int IntKind.i64 (0 : Int), IV.int IntKind.i64 (0 : Int),
 IV.vslice (some (Prod.snd (Prod.snd (Prod.snd (Prod.snd x))))) (List.length (Prod.fst (Prod.snd (Prod.snd (Prod.snd x)))) * (5 : Nat) + (5 : Nat))
 (List.length (Prod.fst (Prod.snd (Prod.snd (Prod.snd x)))) + (1 : Nat)) (5 : Nat)
 (cTs (Prod.fst (Prod.snd (Prod.snd (Prod.snd x)))) ++
 [IV.int IntKind.i64 v, IV.int IntKind.i64 op, IV.int IntKind.i64 im, IV.int IntKind.i64 iv, IV.vslice none (0 : Nat) (0 : Nat) (5 : Nat) []])] =
 some [IV.int IntKind.i64 (0 : Int), IV.int IntKind.i64 (Prod.fst x_1), IV.int IntKind.i64 (0 : Int), IV.int IntKind.i64 (0 : Int), IV.nilslice] ∧
 Heap.set h2 (Prod.snd (Prod.snd (Prod.snd (Prod.snd x)))) (IObj.tip (List.length (Prod.fst (Prod.snd (Prod.snd (Prod.snd x)))) * (5 : Nat) + (5 : Nat))) =
 Prod.snd (Prod.snd x_1) ∧
 (dp ≤ (2 : Int) ∧
 ((1 : Int) ≤ Prod.fst x_1 ∧ Prod.fst x_1 ≤ (29 : Int)) ∧
 ((0 : Int) ≤ Prod.fst (Prod.snd x_1) ∧ Prod.fst (Prod.snd x_1) < (1000 : Int)) ∧ GH h id (Prod.snd (Prod.snd x_1))) ∧
 Int.toNat (ar (Prod.fst x_1)) < Int.toNat (ar (Prod.fst x)) - List.length (Prod.fst (Prod.snd (Prod.snd (Prod.snd x))))) ∨
 ∃ (x_1 : Int × Int × Heap × List T × Nat),
 some (TV.v (IV.ptr id (0 : Nat))) = some (TV.v (IV.ptr id (0 : Nat))) ∧
 some (TV.v (IV.int IntKind.i64 dp)) = some (TV.v (IV.int IntKind.i64 dp)) ∧
 some (TV.v (IV.int IntKind.i64 vs)) = some (TV.v (IV.int IntKind.i64 vs)) ∧
 some (TV.v (IV.bool st)) = some (TV.v (IV.bool st)) ∧
 some (TV.l (10 : Nat) (0 : Nat)) = some (TV.l (10 : Nat) (0 : Nat)) ∧
 some (TV.v (IV.int IntKind.i64 (Prod.fst (Prod.snd x)))) = some (TV.v (IV.int IntKind.i64 (Prod.fst (Prod.snd x_1)))) ∧
 some (TV.l (14 : Nat) (0 : Nat)) = some (TV.l (14 : Nat) (0 : Nat)) ∧
 some (TV.v (IV.int IntKind.i64 (ar (Prod.fst x)))) = some (TV.v (IV.int IntKind.i64 (ar (Prod.fst x_1)))) ∧
 some (TV.v (IV.int IntKind.i64 (IntKind.wrap IntKind.i64 ((↑(List.length (Prod.fst (Prod.snd (Prod.snd (Prod.snd x))))) : Int) + (1 : Int))))) =
 some (TV.v (IV.int IntKind.i64 (↑(List.length (Prod.fst (Prod.snd (Prod.snd (Prod.snd x_1))))) : Int))) ∧
 some [IV.int IntKind.i64 (0 : Int), IV.int IntKind.i64 (0 : Int), IV.int IntKind.i64 (0 : Int), IV.int IntKind.i64 (0 : Int), IV.nilslice] =
 some [IV.int IntKind.i64 (0 : Int), IV.int IntKind.i64 (0 : Int), IV.int IntKind.i64 (0 : Int), IV.int IntKind.i64 (0 : Int), IV.nilslice] ∧
 some
 [IV.int IntKind.i64 (0 : Int), IV.int IntKind.i64 (Prod.fst x), IV.int IntKind.i64 (0 : Int), IV.int IntKind.i64 (0 : Int),
 IV.vslice (some (Prod.snd (Prod.snd (Prod.snd (Prod.snd x))))) (List.length (Prod.fst (Prod.snd (Prod.snd (Prod.snd x)))) * (5 : Nat) + (5 : Nat))
 (List.length (Prod.fst (Prod.snd (Prod.snd (Prod.snd x)))) + (1 : Nat)) (5 : Nat)
 (cTs (Prod.fst (Prod.snd (Prod.snd (Prod.snd x)))) ++
 [IV.int IntKind.i64 v, IV.int IntKind.i64 op, IV.int IntKind.i64 im, IV.int IntKind.i64 iv, IV.vslice none (0 : Nat) (0 : Nat) (5 : Nat) []])] =
 some
 [IV.int IntKind.i64 (0 : Int), IV.int IntKind.i64 (Prod.fst x_1), IV.int IntKind.i64 (0 : Int), IV.int IntKind.i64 (0 : Int),
 IV.vslice (some (Prod.snd (Prod.snd (Prod.snd (Prod.snd x_1))))) (List.length (Prod.fst (Prod.snd (Prod.snd (Prod.snd x_1)))) * (5 : Nat))
 (List.length (Prod.fst (Prod.snd (Prod.snd (Prod.snd x_1))))) (5 : Nat) (cTs (Prod.fst (Prod.snd (Prod.snd (Prod.snd x_1)))))] ∧
 Heap.set h2 (Prod.snd (Prod.snd (Prod.snd (Prod.snd x)))) (IObj.tip (List.length (Prod.fst (Prod.snd (Prod.snd (Prod.snd x)))) * (5 : Nat) + (5 : Nat))) =
 Prod.fst (Prod.snd (Prod.snd x_1)) ∧
 (dp ≤ (2 : Int) ∧
 ((1 : Int) ≤ Prod.fst x_1 ∧ Prod.fst x_1 ≤ (29 : Int)) ∧
 ((0 : Int) ≤ Prod.fst (Prod.snd x_1) ∧ Prod.fst (Prod.snd x_1) < (1000 : Int)) ∧
 GH h id (Prod.fst (Prod.snd (Prod.snd x_1))) ∧
 (Heap.get (Prod.fst (Prod.snd (Prod.snd x_1))) (Prod.snd (Prod.snd (Prod.snd (Prod.snd x_1)))) =
 IObj.tip (List.length (Prod.fst (Prod.snd (Prod.snd (Prod.snd x_1)))) * (5 : Nat)) ∧
 Prod.snd (Prod.snd (Prod.snd (Prod.snd x_1))) < Heap.next (Prod.fst (Prod.snd (Prod.snd x_1))) ∧
 Prod.snd (Prod.snd (Prod.snd (Prod.snd x_1))) ≠ id ∧ Heap.next h ≤ Prod.snd (Prod.snd (Prod.snd (Prod.snd x_1)))) ∧
 ((0 : Nat) < List.length (Prod.fst (Prod.snd (Prod.snd (Prod.snd x_1)))) ∧
 (↑(List.length (Prod.fst (Prod.snd (Prod.snd (Prod.snd x_1))))) : Int) ≤ ar (Prod.fst x_1)) ∧
 oks (Prod.fst (Prod.snd (Prod.snd (Prod.snd x_1)))) ∧
 nums (Prod.fst (Prod.snd (Prod.snd (Prod.snd x_1)))) ≤ List.length (Prod.fst (Prod.snd (Prod.snd (Prod.snd x_1)))) * bnd (Int.toNat ((2 : Int) - dp))) ∧
 Int.toNat (ar (Prod.fst x_1)) - List.length (Prod.fst (Prod.snd (Prod.snd (Prod.snd x_1)))) <
 Int.toNat (ar (Prod.fst x)) - List.length (Prod.fst (Prod.snd (Prod.snd (Prod.snd x)))))) ∧
 ∀ (v op im iv : Int) (ks : List T) (io : Option Nat) (e : Nat) (h2 : Heap),
 i64b v ∧ i64b op ∧ i64b im ∧ i64b iv →
 oks ks →
 nums ks + (1 : Nat) ≤ bnd (Int.toNat ((3 : Int) - IntKind.wrap IntKind.i64 (dp + (1 : Int)))) →
 GH (Prod.fst (Prod.snd (Prod.snd x))) id h2 →
 tipS h2 (Prod.snd (Prod.snd (Prod.snd (Prod.snd x)))) fun (m2 : Nat) =>
 needS
 (Nat.beq m2 (List.length (Prod.fst (Prod.snd (Prod.snd (Prod.snd x)))) * (5 : Nat)) &&
 Nat.ble ((List.length (Prod.fst (Prod.snd (Prod.snd (Prod.snd x)))) + (1 : Nat)) * (56 : Nat)) (140737488355328 : Nat))
 ((∃ (x_1 : Int × Int × Heap),
 some (TV.v (IV.ptr id (0 : Nat))) = some (TV.v (IV.ptr id (0 : Nat))) ∧
 some (TV.v (IV.int IntKind.i64 dp)) = some (TV.v (IV.int IntKind.i64 dp)) ∧
 some (TV.v (IV.int IntKind.i64 vs)) = some (TV.v (IV.int IntKind.i64 vs)) ∧
 some (TV.v (IV.bool st)) = some (TV.v (IV.bool st)) ∧
 some (TV.l (10 : Nat) (0 : Nat)) = some (TV.l (10 : Nat) (0 : Nat)) ∧
 some (TV.v (IV.int IntKind.i64 (Prod.fst (Prod.snd x)))) = some (TV.v (IV.int IntKind.i64 (Prod.fst (Prod.snd x_1)))) ∧
 some (TV.l (14 : Nat) (0 : Nat)) = some (TV.l (14 : Nat) (0 : Nat)) ∧
 some (TV.v (IV.int IntKind.i64 (ar (Prod.fst x)))) = some (TV.v (IV.int IntKind.i64 (ar (Prod.fst x_1)))) ∧
 some (TV.v (IV.int IntKind.i64 (IntKind.wrap IntKind.i64 ((↑(List.length (Prod.fst (Prod.snd (Prod.snd (Prod.snd x))))) : Int) + (1 : Int))))) =
 some (TV.v (IV.int IntKind.i64 (0 : Int))) ∧
 some [IV.int IntKind.i64 (0 : Int), IV.int IntKind.i64 (0 : Int), IV.int IntKind.i64 (0 : Int), IV.int IntKind.i64 (0 : Int), IV.nilslice] =
 some [IV.int IntKind.i64 (0 : Int), IV.int IntKind.i64 (0 : Int), IV.int IntKind.i64 (0 : Int), IV.int IntKind.i64 (0 : Int), IV.nilslice] ∧
 some
 [IV.int IntKind.i64 (0 : Int), IV.int IntKind.i64 (Prod.fst x), IV.int IntKind.i64 (0 : Int), IV.int IntKind.i64 (0 : Int),
 IV.vslice (some (Prod.snd (Prod.snd (Prod.snd (Prod.snd x))))) (List.length (Prod.fst (Prod.snd (Prod.snd (Prod.snd x)))) * (5 : Nat) + (5 : Nat))
 (List.length (Prod.fst (Prod.snd (Prod.snd (Prod.snd x)))) + (1 : Nat)) (5 : Nat)
 (cTs (Prod.fst (Prod.snd (Prod.snd (Prod.snd x)))) ++
 [IV.int IntKind.i64 v, IV.int IntKind.i64 op, IV.int IntKind.i64 im, IV.int IntKind.i64 iv, IV.vslice none (0 : Nat) (List.length ks) (5 : Nat) (cTs ks)])] =
 some [IV.int IntKind.i64 (0 : Int), IV.int IntKind.i64 (Prod.fst x_1), IV.int IntKind.i64 (0 : Int), IV.int IntKind.i64 (0 : Int), IV.nilslice] ∧
 Heap.set h2 (Prod.snd (Prod.snd (Prod.snd (Prod.snd x)))) (IObj.tip (List.length (Prod.fst (Prod.snd (Prod.snd (Prod.snd x)))) * (5 : Nat) + (5 : Nat))) =
 Prod.snd (Prod.snd x_1) ∧
 (dp ≤ (2 : Int) ∧
 ((1 : Int) ≤ Prod.fst x_1 ∧ Prod.fst x_1 ≤ (29 : Int)) ∧
 ((0 : Int) ≤ Prod.fst (Prod.snd x_1) ∧ Prod.fst (Prod.snd x_1) < (1000 : Int)) ∧ GH h id (Prod.snd (Prod.snd x_1))) ∧
 Int.toNat (ar (Prod.fst x_1)) < Int.toNat (ar (Prod.fst x)) - List.length (Prod.fst (Prod.snd (Prod.snd (Prod.snd x))))) ∨
 ∃ (x_1 : Int × Int × Heap × List T × Nat),
 some (TV.v (IV.ptr id (0 : Nat))) = some (TV.v (IV.ptr id (0 : Nat))) ∧
 some (TV.v (IV.int IntKind.i64 dp)) = some (TV.v (IV.int IntKind.i64 dp)) ∧
 some (TV.v (IV.int IntKind.i64 vs)) = some (TV.v (IV.int IntKind.i64 vs)) ∧
 some (TV.v (IV.bool st)) = some (TV.v (IV.bool st)) ∧
 some (TV.l (10 : Nat) (0 : Nat)) = some (TV.l (10 : Nat) (0 : Nat)) ∧
 some (TV.v (IV.int IntKind.i64 (Prod.fst (Prod.snd x)))) = some (TV.v (IV.int IntKind.i64 (Prod.fst (Prod.snd x_1)))) ∧
 some (TV.l (14 : Nat) (0 : Nat)) = some (TV.l (14 : Nat) (0 : Nat)) ∧
 some (TV.v (IV.int IntKind.i64 (ar (Prod.fst x)))) = some (TV.v (IV.int IntKind.i64 (ar (Prod.fst x_1)))) ∧
 some (TV.v (IV.int IntKind.i64 (IntKind.wrap IntKind.i64 ((↑(List.length (Prod.fst (Prod.snd (Prod.snd (Prod.snd x))))) : Int) + (1 : Int))))) =
 some (TV.v (IV.int IntKind.i64 (↑(List.length (Prod.fst (Prod.snd (Prod.snd (Prod.snd x_1))))) : Int))) ∧
 some [IV.int IntKind.i64 (0 : Int), IV.int IntKind.i64 (0 : Int), IV.int IntKind.i64 (0 : Int), IV.int IntKind.i64 (0 : Int), IV.nilslice] =
 some [IV.int IntKind.i64 (0 : Int), IV.int IntKind.i64 (0 : Int), IV.int IntKind.i64 (0 : Int), IV.int IntKind.i64 (0 : Int), IV.nilslice] ∧
 some
 [IV.int IntKind.i64 (0 : Int), IV.int IntKind.i64 (Prod.fst x), IV.int IntKind.i64 (0 : Int), IV.int IntKind.i64 (0 : Int),
 IV.vslice (some (Prod.snd (Prod.snd (Prod.snd (Prod.snd x))))) (List.length (Prod.fst (Prod.snd (Prod.snd (Prod.snd x)))) * (5 : Nat) + (5 : Nat))
 (List.length (Prod.fst (Prod.snd (Prod.snd (Prod.snd x)))) + (1 : Nat)) (5 : Nat)
 (cTs (Prod.fst (Prod.snd (Prod.snd (Prod.snd x)))) ++
 [IV.int IntKind.i64 v, IV.int IntKind.i64 op, IV.int IntKind.i64 im, IV.int IntKind.i64 iv, IV.vslice none (0 : Nat) (List.length ks) (5 : Nat) (cTs ks)])] =
 some
 [IV.int IntKind.i64 (0 : Int), IV.int IntKind.i64 (Prod.fst x_1), IV.int IntKind.i64 (0 : Int), IV.int IntKind.i64 (0 : Int),
 IV.vslice (some (Prod.snd (Prod.snd (Prod.snd (Prod.snd x_1))))) (List.length (Prod.fst (Prod.snd (Prod.snd (Prod.snd x_1)))) * (5 : Nat))
 (List.length (Prod.fst (Prod.snd (Prod.snd (Prod.snd x_1))))) (5 : Nat) (cTs (Prod.fst (Prod.snd (Prod.snd (Prod.snd x_1)))))] ∧
 Heap.set h2 (Prod.snd (Prod.snd (Prod.snd (Prod.snd x)))) (IObj.tip (List.length (Prod.fst (Prod.snd (Prod.snd (Prod.snd x)))) * (5 : Nat) + (5 : Nat))) =
 Prod.fst (Prod.snd (Prod.snd x_1)) ∧
 (dp ≤ (2 : Int) ∧
 ((1 : Int) ≤ Prod.fst x_1 ∧ Prod.fst x_1 ≤ (29 : Int)) ∧
 ((0 : Int) ≤ Prod.fst (Prod.snd x_1) ∧ Prod.fst (Prod.snd x_1) < (1000 : Int)) ∧
 GH h id (Prod.fst (Prod.snd (Prod.snd x_1))) ∧
 (Heap.get (Prod.fst (Prod.snd (Prod.snd x_1))) (Prod.snd (Prod.snd (Prod.snd (Prod.snd x_1)))) =
 IObj.tip (List.length (Prod.fst (Prod.snd (Prod.snd (Prod.snd x_1)))) * (5 : Nat)) ∧
 Prod.snd (Prod.snd (Prod.snd (Prod.snd x_1))) < Heap.next (Prod.fst (Prod.snd (Prod.snd x_1))) ∧
 Prod.snd (Prod.snd (Prod.snd (Prod.snd x_1))) ≠ id ∧ Heap.next h ≤ Prod.snd (Prod.snd (Prod.snd (Prod.snd x_1)))) ∧
 ((0 : Nat) < List.length (Prod.fst (Prod.snd (Prod.snd (Prod.snd x_1)))) ∧
 (↑(List.length (Prod.fst (Prod.snd (Prod.snd (Prod.snd x_1))))) : Int) ≤ ar (Prod.fst x_1)) ∧
 oks (Prod.fst (Prod.snd (Prod.snd (Prod.snd x_1)))) ∧
 nums (Prod.fst (Prod.snd (Prod.snd (Prod.snd x_1)))) ≤ List.length (Prod.fst (Prod.snd (Prod.snd (Prod.snd x_1)))) * bnd (Int.toNat ((2 : Int) - dp))) ∧
 Int.toNat (ar (Prod.fst x_1)) - List.length (Prod.fst (Prod.snd (Prod.snd (Prod.snd x_1)))) <
 Int.toNat (ar (Prod.fst x)) - List.length (Prod.fst (Prod.snd (Prod.snd (Prod.snd x))))))
 (brS (hasImm (Prod.fst x))
 (brS (Int.tmod (Prod.fst (Prod.snd x)) (5 : Int) == (0 : Int))
 (brS (Prod.fst x == (27 : Int))
 (Q
 (IV.agg
 [IV.int IntKind.i64 (0 : Int), IV.int IntKind.i64 (Prod.fst x), IV.int IntKind.i64 (1 : Int), IV.int IntKind.i64 (0 : Int),
 IV.vslice (some (Prod.snd (Prod.snd (Prod.snd (Prod.snd x))))) (List.length (Prod.fst (Prod.snd (Prod.snd (Prod.snd x)))) * (5 : Nat)) (List.length (Prod.fst (Prod.snd (Prod.snd (Prod.snd x))))) (5 : Nat)
 (cTs (Prod.fst (Prod.snd (Prod.snd (Prod.snd x)))))])
 (Prod.fst (Prod.snd (Prod.snd x))))
 (Q
 (IV.agg
 [IV.int IntKind.i64 (0 : Int), IV.int IntKind.i64 (Prod.fst x), IV.int IntKind.i64 (IntKind.wrap IntKind.i64 ((1 : Int) - Int.tmod (Prod.fst (Prod.snd x)) (2 : Int))), IV.int IntKind.i64 (0 : Int),
 IV.vslice (some (Prod.snd (Prod.snd (Prod.snd (Prod.snd x))))) (List.length (Prod.fst (Prod.snd (Prod.snd (Prod.snd x)))) * (5 : Nat)) (List.length (Prod.fst (Prod.snd (Prod.snd (Prod.snd x))))) (5 : Nat)
 (cTs (Prod.fst (Prod.snd (Prod.snd (Prod.snd x)))))])
 (Prod.fst (Prod.snd (Prod.snd x)))))
 (Q
 (IV.agg
 [IV.int IntKind.i64 (0 : Int), IV.int IntKind.i64 (Prod.fst x), IV.int IntKind.i64 (0 : Int), IV.int IntKind.i64 (IntKind.wrap IntKind.i64 ((1 : Int) + Int.tmod (Prod.fst (Prod.snd x)) (2 : Int))),
 IV.vslice (some (Prod.snd (Prod.snd (Prod.snd (Prod.snd x))))) (List.length (Prod.fst (Prod.snd (Prod.snd (Prod.snd x)))) * (5 : Nat)) (List.length (Prod.fst (Prod.snd (Prod.snd (Prod.snd x))))) (5 : Nat)
 (cTs (Prod.fst (Prod.snd (Prod.snd (Prod.snd x)))))])
 (Prod.fst (Prod.snd (Prod.snd x)))))
 (Q
 (IV.agg
 [IV.int IntKind.i64 (0 : Int), IV.int IntKind.i64 (Prod.fst x), IV.int IntKind.i64 (0 : Int), IV.int IntKind.i64 (0 : Int),
 IV.vslice (some (Prod.snd (Prod.snd (Prod.snd (Prod.snd x))))) (List.length (Prod.fst (Prod.snd (Prod.snd (Prod.snd x)))) * (5 : Nat)) (List.length (Prod.fst (Prod.snd (Prod.snd (Prod.snd x))))) (5 : Nat)
 (cTs (Prod.fst (Prod.snd (Prod.snd (Prod.snd x)))))])
 (Prod.fst (Prod.snd (Prod.snd x)))))) ∧
 True) := by kernel_rfl
set_option maxHeartbeats 4000000 in
theorem rRPat : ∀ d xs h Q, kRPat d xs h Q → CallW env 30 xs h Q := by
  intro d
  induction d with
  | zero =>
    intro xs h Q hk
    unfold kRPat at hk
    split at hk
    · rename_i id s dp vs st
      skip
      omega
    · exact hk.elim
  | succ dd ih =>
    intro xs h Q hk
    unfold kRPat at hk
    split at hk
    · rename_i id s dp vs st
      refine dF_run (sound_add ih (okNext)) (vRPat dd id s dp vs st h Q) ?_
      obtain ⟨hrd, hd, hv, hk1, hk2⟩ := hk
      have hdp : IntKind.i64.wrap (dp + 1) = dp + 1 := IntWalk.i64_in _ (by omega)
      have hvs : IntKind.i64.wrap (vs - 1) = vs - 1 := IntWalk.i64_in _ (by omega)
      have tn : ∀ x : Nat, (x : Int).toNat = x := Int.toNat_natCast
      have h0b : i64b 0 := by unfold i64b; omega
      have h1b : i64b 1 := by unfold i64b; omega
      refine ⟨⟨hrd, fun n h2 hn hr2 hf2 => ⟨by omega, by omega, brS_intro (fun c => ?_) (fun c => ?_), ?_⟩⟩, ?_, trivial⟩
      · refine ⟨(n, IntKind.i64.wrap (n.tdiv 12) % 1000, true, h2), ?_⟩
        repeat (refine And.intro (by first | rfl | exact True.intro) ?_)
        exact ⟨⟨hn, by simp only; omega, fun e => (by cases e), hr2, hf2⟩, trivial⟩
      · rw [decide_eq_false_iff_not] at c
        refine ⟨(n, IntKind.i64.wrap (n.tdiv 12) % 1000, decide (n % 12 < 3), h2), ?_⟩
        repeat (refine And.intro (by first | rfl | exact True.intro) ?_)
        exact ⟨⟨hn, by simp only; omega, fun e => (by omega), hr2, hf2⟩, trivial⟩
      · rintro ⟨n, m, b, g⟩ _ ⟨hn, hm, hb, hg⟩
        simp only at hn hm hb hg ⊢
        refine brS_intro (fun c => ?_) (fun c => ?_)
        · simp only [hvs]
          repeat' (first | refine needS_intro ?_ ?_ | refine brS_intro (fun _ => ?_) (fun _ => ?_))
          all_goals first
            | exact hk1 _ _ _ _ _ ⟨by first | assumption | exact wrap_b _, by first | assumption | exact wrap_b _, by assumption, by assumption⟩ hg
            | (rw [Bool.not_eq_true', beq_eq_false_iff_ne]; first | omega | (split <;> omega))
            | exact ⟨hn, fun w hw => hk1 _ _ _ _ _ ⟨h0b, h1b, hw, h0b⟩ hg⟩
        · have hd2 := hb c
          refine brS_intro (fun c1 => ?_) (fun c1 => ?_)
          · have ht : Int.tmod m 3 = m % 3 := Int.tmod_eq_emod_of_nonneg hm.1
            rw [ht]
            refine needS_intro (by simp; omega) ?_
            show ldIS .i64 (([27, 28, 29] : List Int).map (IV.int .i64)) _ _
            have hl : (m % 3).toNat < ([27, 28, 29] : List Int).length := by simp; omega
            rw [Nat.mul_one]
            refine ldIS_map hl ?_
            have ha : ∀ x ∈ ([27, 28, 29] : List Int), 1 ≤ x ∧ x ≤ 29 := by decide
            refine ⟨(([27, 28, 29] : List Int)[(m % 3).toNat], m, g), ?_⟩
            repeat (refine And.intro (by first | rfl | exact True.intro) ?_)
            exact ⟨⟨hd2, ha _ (List.getElem_mem hl), hm, hg⟩, trivial⟩
          · have ht : Int.tmod m 19 = m % 19 := Int.tmod_eq_emod_of_nonneg hm.1
            have hw : IntKind.i64.wrap (4 + m % 19) = 4 + m % 19 := IntWalk.i64_in _ (by omega)
            rw [ht, hw]
            repeat' refine brS_intro (fun _ => ?_) (fun _ => ?_)
            · refine ⟨(23, m, g), ?_⟩
              repeat (refine And.intro (by first | rfl | exact True.intro) ?_)
              exact ⟨⟨hd2, by simp only; omega, hm, hg⟩, trivial⟩
            all_goals
              refine ⟨(4 + m % 19, m, g), ?_⟩
              repeat (refine And.intro (by first | rfl | exact True.intro) ?_)
              exact ⟨⟨hd2, by simp only; omega, hm, hg⟩, trivial⟩
      · rintro ⟨op, m, g⟩ _ ⟨hd2, hop, hm, hg⟩
        simp only at hop hm hg ⊢
        refine ⟨.inl ⟨(op, m, g), ?_⟩, ?_, ?_⟩
        · repeat (refine And.intro (by first | rfl | exact True.intro) ?_)
          exact ⟨⟨hd2, hop, hm, hg⟩, trivial⟩
        · rintro ⟨op, m, g⟩ _ ⟨hd2, hop, hm, hg⟩
          simp only at hop hm hg ⊢
          refine brS_intro (fun c => ?_) (fun c => ?_)
          · rw [decide_eq_true_eq] at c
            rw [hdp]
            refine ⟨hg.1, by omega, hv, fun v op2 im iv h2 hb2 hg2 => .inr ⟨(op, m, h2.push (.tip 5), [T.mk v op2 im iv []], h2.next), ?_⟩, fun v op2 im iv ks io e h2 hb2 hok hnum hg2 => .inr ⟨(op, m, h2.push (.tip 5), [T.mk v op2 im iv ks], h2.next), ?_⟩⟩
            · repeat (refine And.intro (by first | rfl | exact True.intro) ?_)
              refine ⟨⟨hd2, hop, hm, (hg.trans hg2).push, ⟨get_push_eq, Nat.lt_succ_self _, Nat.ne_of_gt hg2.1.1, (hg.trans hg2).2.1⟩, ⟨Nat.zero_lt_one, by simp only [List.length_cons, List.length_nil]; omega⟩, ⟨⟨hb2, trivial⟩, trivial⟩, ?_⟩, ?_⟩
              · have := bnd_pos (2 - dp).toNat
                simp only [nums, T.num, List.length_cons, List.length_nil]; omega
              · simp only [List.length_cons, List.length_nil]; omega
            · repeat (refine And.intro (by first | rfl | exact True.intro) ?_)
              refine ⟨⟨hd2, hop, hm, (hg.trans hg2).push, ⟨get_push_eq, Nat.lt_succ_self _, Nat.ne_of_gt hg2.1.1, (hg.trans hg2).2.1⟩, ⟨Nat.zero_lt_one, by simp only [List.length_cons, List.length_nil]; omega⟩, ⟨⟨hb2, hok⟩, trivial⟩, ?_⟩, ?_⟩
              · rw [show 3 - (dp + 1) = 2 - dp by omega] at hnum
                simp only [nums, T.num, List.length_cons, List.length_nil]; omega
              · simp only [List.length_cons, List.length_nil]; omega
          · repeat' refine brS_intro (fun _ => ?_) (fun _ => ?_)
            all_goals exact hk1 _ _ _ _ _ ⟨h0b, by unfold i64b; omega, by first | assumption | exact wrap_b _, by first | assumption | exact wrap_b _⟩ hg
        · rintro ⟨op, m, g, ks, i2⟩ _ ⟨hd2, hop, hm, hg, ⟨ht, hlt, hne, hhi⟩, ⟨h0, hle⟩, hok, hnum⟩
          simp only at hop hm hg ht hlt hne hhi h0 hle hok hnum ⊢
          have ha3 : ar op ≤ 3 := by unfold ar; repeat' split <;> omega
          refine brS_intro (fun c => ?_) (fun c => ?_)
          · rw [decide_eq_true_eq] at c
            rw [hdp]
            have hwl : IntKind.i64.wrap ((ks.length : Int) + 1) = ((ks.length + 1 : Nat) : Int) := by rw [IntWalk.i64_in _ (by omega)]; rfl
            have step : ∀ (t : T) (h2 : Heap), t.ok → t.num ≤ bnd (2 - dp).toNat → GH g id h2 → (∀ (x : Int × Int × Heap × List T × Nat), x = (op, m, h2.set i2 (.tip (ks.length * 5 + 5)), ks ++ [t], i2) →
                dp ≤ 2 ∧ (1 ≤ x.1 ∧ x.1 ≤ 29) ∧ (0 ≤ x.2.1 ∧ x.2.1 < 1000) ∧ GH h id x.2.2.1 ∧ (x.2.2.1.get x.2.2.2.2 = .tip (x.2.2.2.1.length * 5) ∧ x.2.2.2.2 < x.2.2.1.next ∧ x.2.2.2.2 ≠ id ∧ h.next ≤ x.2.2.2.2) ∧ (0 < x.2.2.2.1.length ∧ (x.2.2.2.1.length : Int) ≤ ar x.1) ∧ oks x.2.2.2.1 ∧ nums x.2.2.2.1 ≤ x.2.2.2.1.length * bnd (2 - dp).toNat) := by
              rintro t h2 ht1 ht2 hg2 _ rfl
              have hll : (ks ++ [t]).length = ks.length + 1 := by simp
              refine ⟨hd2, hop, hm, (hg.trans hg2).set hhi hne, ⟨by rw [get_set_eq, hll, Nat.succ_mul], Nat.lt_of_lt_of_le hlt hg2.2.1, hne, hhi⟩, ⟨by show 0 < (ks ++ [t]).length; omega, by show (((ks ++ [t]).length : Nat) : Int) ≤ ar op; omega⟩, oks_append.2 ⟨hok, ht1, trivial⟩, ?_⟩
              simp only [hll, nums_append, nums, Nat.succ_mul]
              omega
            have htip : ∀ h2, GH g id h2 → h2.get i2 = .tip (ks.length * 5) := fun h2 hg2 => (hg2.2.2 i2 hlt hne).trans ht
            refine ⟨hg.1, by omega, hv, fun v op2 im iv h2 hb2 hg2 => tip_intro (htip h2 hg2) (needS_intro (by simp [nbeq_t]; omega) (.inr ⟨(op, m, h2.set i2 (.tip (ks.length * 5 + 5)), ks ++ [T.mk v op2 im iv []], i2), ?_⟩)),
              fun v op2 im iv kk io e h2 hb2 hok2 hnum2 hg2 => tip_intro (htip h2 hg2) (needS_intro (by simp [nbeq_t]; omega) (.inr ⟨(op, m, h2.set i2 (.tip (ks.length * 5 + 5)), ks ++ [T.mk v op2 im iv kk], i2), ?_⟩))⟩
            · repeat (refine And.intro (by first | rfl | exact True.intro) ?_)
              refine ⟨by simp only [hwl, List.length_append, List.length_cons, List.length_nil], ?_⟩
              repeat (refine And.intro (by first | rfl | exact True.intro) ?_)
              refine ⟨by simp [cTs, cT, cTs_append, Nat.succ_mul], ?_⟩
              repeat (refine And.intro (by first | rfl | exact True.intro) ?_)
              refine ⟨step _ _ (show T.ok (T.mk v op2 im iv []) from ⟨hb2, trivial⟩) ?_ hg2 _ rfl, ?_⟩
              · have := bnd_pos (2 - dp).toNat
                simp only [nums, T.num]; omega
              · simp only [List.length_append, List.length_cons, List.length_nil]; omega
            · repeat (refine And.intro (by first | rfl | exact True.intro) ?_)
              refine ⟨by simp only [hwl, List.length_append, List.length_cons, List.length_nil], ?_⟩
              repeat (refine And.intro (by first | rfl | exact True.intro) ?_)
              refine ⟨by simp [cTs, cT, cTs_append, Nat.succ_mul], ?_⟩
              repeat (refine And.intro (by first | rfl | exact True.intro) ?_)
              refine ⟨step _ _ (show T.ok (T.mk v op2 im iv kk) from ⟨hb2, hok2⟩) ?_ hg2 _ rfl, ?_⟩
              · rw [show 3 - (dp + 1) = 2 - dp by omega] at hnum2
                simp only [T.num]; omega
              · simp only [List.length_append, List.length_cons, List.length_nil]; omega
          · have hfin : nums ks + 1 ≤ bnd (3 - dp).toNat := by
              rw [show (3 - dp).toNat = (2 - dp).toNat + 1 by omega]
              simp only [bnd]
              have : ks.length * bnd (2 - dp).toNat ≤ 3 * bnd (2 - dp).toNat := Nat.mul_le_mul_right _ (by omega)
              omega
            repeat' refine brS_intro (fun _ => ?_) (fun _ => ?_)
            all_goals exact hk2 _ _ _ _ ks _ _ _ ⟨h0b, by unfold i64b; omega, by first | assumption | exact wrap_b _, by first | assumption | exact wrap_b _⟩ hok hfin hg
    · exact hk.elim
def cRPat := addC 30 (fun xs h K => ∃ d, kRPat d xs h K) cNext
theorem okRPat : Sound env cRPat := sound_add (fun xs h Q hk => hk.elim fun d hk => rRPat d xs h Q hk) (okNext)

def kPat (xs : List IV) (h : Heap) (K : IV → Heap → Prop) : Prop := match xs with
  | [.vslice none e1 n1 1 c1] => ∃ l : List Int, (n1 = l.length ∧ c1 = l.map (IV.int .i64)) ∧ ((∀ x ∈ l, i64b x) ∧ l.length ≤ 9223372036854775807) ∧
   ∀ (v op im iv : Int) (ks : List T), (T.mk v op im iv ks).ok → (T.mk v op im iv ks).num ≤ 40 → K (.agg [.int .i64 v, .int .i64 op, .int .i64 im, .int .i64 iv, .vslice none 0 ks.length 5 (cTs ks)]) h
  | _ => False
set_option maxRecDepth 100000 in
theorem vPat (l : List Int) (e1 : Nat) (h : Heap) (Q : IV → Heap → Prop) : dF (stdS cRPat) env 12 noU noI noI [.vslice none e1 (l).length 1 ((l).map (IV.int .i64))] h Q = (
  needS (pureL [IV.vslice none (0 : Nat) (List.length l) (1 : Nat) (List.map (IV.int IntKind.i64) l)])
 (needS
 (true &&
 (decide ((0 : Int) ≤ if (30 : Int) < (↑(List.length l) : Int) then (30 : Int) else (↑(List.length l) : Int)) &&
 decide ((if (30 : Int) < (↑(List.length l) : Int) then (30 : Int) else (↑(List.length l) : Int)) ≤ (↑(List.length l) : Int))))
 (brS (Nat.beq (Int.toNat (if (30 : Int) < (↑(List.length l) : Int) then (30 : Int) else (↑(List.length l) : Int)) - (0 : Nat)) (0 : Nat))
 (RD (Heap.mk (PT.node PT.nil (some (IObj.cells [IV.vslice none (1 : Nat) (0 : Nat) (1 : Nat) [], IV.int IntKind.i64 (0 : Int)])) PT.nil) ((0 : Nat) + (1 : Nat))) (0 : Nat) ∧
 ∀ (n : Int) (h2 : Heap),
 i64b n →
 RD h2 (0 : Nat) →
 HF (0 : Nat) (Heap.mk (PT.node PT.nil (some (IObj.cells [IV.vslice none (1 : Nat) (0 : Nat) (1 : Nat) [], IV.int IntKind.i64 (0 : Int)])) PT.nil) ((0 : Nat) + (1 : Nat))) h2 →
 ((0 : Int) < (2 : Int) ∧ (2 : Int) < (4611686018427387904 : Int)) ∧
 ((0 : Int) < (4 : Int) ∧ (4 : Int) < (4611686018427387904 : Int)) ∧
 ((0 : Int) < (2 : Int) ∧ (2 : Int) < (4611686018427387904 : Int)) ∧
 brS (n % (2 : Int) == (1 : Int))
 (∃ (d : Nat),
 RD h2 (0 : Nat) ∧
 ((0 : Int) ≤ (0 : Int) ∧ (0 : Int) ≤ (3 : Int) ∧ (3 : Int) < (↑d : Int)) ∧
 ((1 : Int) ≤ IntKind.wrap IntKind.i64 ((1 : Int) + IntKind.wrap IntKind.i64 (Int.tdiv n (2 : Int)) % (4 : Int)) ∧
 IntKind.wrap IntKind.i64 ((1 : Int) + IntKind.wrap IntKind.i64 (Int.tdiv n (2 : Int)) % (4 : Int)) ≤ (4 : Int)) ∧
 (∀ (v op im iv : Int) (h2_1 : Heap),
 i64b v ∧ i64b op ∧ i64b im ∧ i64b iv →
 GH h2 (0 : Nat) h2_1 → Q (IV.agg [IV.int IntKind.i64 v, IV.int IntKind.i64 op, IV.int IntKind.i64 im, IV.int IntKind.i64 iv, IV.vslice none (0 : Nat) (0 : Nat) (5 : Nat) []]) h) ∧
 ∀ (v op im iv : Int) (ks : List T) (io : Option Nat) (e : Nat) (h2_1 : Heap),
 i64b v ∧ i64b op ∧ i64b im ∧ i64b iv →
 oks ks →
 nums ks + (1 : Nat) ≤ (40 : Nat) →
 GH h2 (0 : Nat) h2_1 →
 needS (pureL [IV.agg [IV.int IntKind.i64 v, IV.int IntKind.i64 op, IV.int IntKind.i64 im, IV.int IntKind.i64 iv, IV.vslice none (0 : Nat) (List.length ks) (5 : Nat) (cTs ks)]])
 (Q (IV.agg [IV.int IntKind.i64 v, IV.int IntKind.i64 op, IV.int IntKind.i64 im, IV.int IntKind.i64 iv, IV.vslice none (0 : Nat) (List.length ks) (5 : Nat) (cTs ks)]) h))
 (((0 : Int) < (2 : Int) ∧ (2 : Int) < (4611686018427387904 : Int)) ∧
 ∃ (d : Nat),
 RD h2 (0 : Nat) ∧
 ((0 : Int) ≤ (0 : Int) ∧ (0 : Int) ≤ (3 : Int) ∧ (3 : Int) < (↑d : Int)) ∧
 ((1 : Int) ≤ IntKind.wrap IntKind.i64 ((1 : Int) + IntKind.wrap IntKind.i64 (Int.tdiv n (2 : Int)) % (4 : Int)) ∧
 IntKind.wrap IntKind.i64 ((1 : Int) + IntKind.wrap IntKind.i64 (Int.tdiv n (2 : Int)) % (4 : Int)) ≤ (4 : Int)) ∧
 (∀ (v op im iv : Int) (h2_1 : Heap),
 i64b v ∧ i64b op ∧ i64b im ∧ i64b iv →
 GH h2 (0 : Nat) h2_1 → Q (IV.agg [IV.int IntKind.i64 v, IV.int IntKind.i64 op, IV.int IntKind.i64 im, IV.int IntKind.i64 iv, IV.vslice none (0 : Nat) (0 : Nat) (5 : Nat) []]) h) ∧
 ∀ (v op im iv : Int) (ks : List T) (io : Option Nat) (e : Nat) (h2_1 : Heap),
 i64b v ∧ i64b op ∧ i64b im ∧ i64b iv →
 oks ks →
 nums ks + (1 : Nat) ≤ (40 : Nat) →
 GH h2 (0 : Nat) h2_1 →
 needS (pureL [IV.agg [IV.int IntKind.i64 v, IV.int IntKind.i64 op, IV.int IntKind.i64 im, IV.int IntKind.i64 iv, IV.vslice none (0 : Nat) (List.length ks) (5 : Nat) (cTs ks)]])
 (Q (IV.agg [IV.int IntKind.i64 v, IV.int IntKind.i64 op, IV.int IntKind.i64 im, IV.int IntKind.i64 iv, IV.vslice none (0 : Nat) (List.length ks) (5 : Nat) (cTs ks)]) h)))
 (needS (Nat.ble (((0 : Nat) + (Int.toNat (if (30 : Int) < (↑(List.length l) : Int) then (30 : Int) else (↑(List.length l) : Int)) - (0 : Nat))) * (8 : Nat)) (140737488355328 : Nat))
 (RD
 (Heap.mk
 (PT.node
 (PT.node PT.nil
 (some
 (IObj.cells
 [IV.vslice (some (0 : Nat)) (((0 : Nat) + (Int.toNat (if (30 : Int) < (↑(List.length l) : Int) then (30 : Int) else (↑(List.length l) : Int)) - (0 : Nat))) * (1 : Nat))
 ((0 : Nat) + (Int.toNat (if (30 : Int) < (↑(List.length l) : Int) then (30 : Int) else (↑(List.length l) : Int)) - (0 : Nat))) (1 : Nat)
 ([] ++ List.take ((Int.toNat (if (30 : Int) < (↑(List.length l) : Int) then (30 : Int) else (↑(List.length l) : Int)) - (0 : Nat)) * (1 : Nat)) (List.drop (0 : Nat) (List.map (IV.int IntKind.i64) l))),
 IV.int IntKind.i64 (0 : Int)]))
 PT.nil)
 (some (IObj.tip (((0 : Nat) + (Int.toNat (if (30 : Int) < (↑(List.length l) : Int) then (30 : Int) else (↑(List.length l) : Int)) - (0 : Nat))) * (1 : Nat)))) PT.nil)
 ((0 : Nat) + (1 : Nat) + (1 : Nat)))
 ((0 : Nat) + (1 : Nat)) ∧
 ∀ (n : Int) (h2 : Heap),
 i64b n →
 RD h2 ((0 : Nat) + (1 : Nat)) →
 HF ((0 : Nat) + (1 : Nat))
 (Heap.mk
 (PT.node
 (PT.node PT.nil
 (some
 (IObj.cells
 [IV.vslice (some (0 : Nat)) (((0 : Nat) + (Int.toNat (if (30 : Int) < (↑(List.length l) : Int) then (30 : Int) else (↑(List.length l) : Int)) - (0 : Nat))) * (1 : Nat))
 ((0 : Nat) + (Int.toNat (if (30 : Int) < (↑(List.length l) : Int) then (30 : Int) else (↑(List.length l) : Int)) - (0 : Nat))) (1 : Nat)
 ([] ++ List.take ((Int.toNat (if (30 : Int) < (↑(List.length l) : Int) then (30 : Int) else (↑(List.length l) : Int)) - (0 : Nat)) * (1 : Nat)) (List.drop (0 : Nat) (List.map (IV.int IntKind.i64) l))),
 IV.int IntKind.i64 (0 : Int)]))
 PT.nil)
 (some (IObj.tip (((0 : Nat) + (Int.toNat (if (30 : Int) < (↑(List.length l) : Int) then (30 : Int) else (↑(List.length l) : Int)) - (0 : Nat))) * (1 : Nat)))) PT.nil)
 ((0 : Nat) + (1 : Nat) + (1 : Nat)))
 h2 →
 ((0 : Int) < (2 : Int) ∧ (2 : Int) < (4611686018427387904 : Int)) ∧
 ((0 : Int) < (4 : Int) ∧ (4 : Int) < (4611686018427387904 : Int)) ∧
 ((0 : Int) < (2 : Int) ∧ (2 : Int) < (4611686018427387904 : Int)) ∧
 brS (n % (2 : Int) == (1 : Int))
 (∃ (d : Nat),
 RD h2 ((0 : Nat) + (1 : Nat)) ∧
 ((0 : Int) ≤ (0 : Int) ∧ (0 : Int) ≤ (3 : Int) ∧ (3 : Int) < (↑d : Int)) ∧
 ((1 : Int) ≤ IntKind.wrap IntKind.i64 ((1 : Int) + IntKind.wrap IntKind.i64 (Int.tdiv n (2 : Int)) % (4 : Int)) ∧
 IntKind.wrap IntKind.i64 ((1 : Int) + IntKind.wrap IntKind.i64 (Int.tdiv n (2 : Int)) % (4 : Int)) ≤ (4 : Int)) ∧
 (∀ (v op im iv : Int) (h2_1 : Heap),
 i64b v ∧ i64b op ∧ i64b im ∧ i64b iv →
 GH h2 ((0 : Nat) + (1 : Nat)) h2_1 → Q (IV.agg [IV.int IntKind.i64 v, IV.int IntKind.i64 op, IV.int IntKind.i64 im, IV.int IntKind.i64 iv, IV.vslice none (0 : Nat) (0 : Nat) (5 : Nat) []]) h) ∧
 ∀ (v op im iv : Int) (ks : List T) (io : Option Nat) (e : Nat) (h2_1 : Heap),
 i64b v ∧ i64b op ∧ i64b im ∧ i64b iv →
 oks ks →
 nums ks + (1 : Nat) ≤ (40 : Nat) →
 GH h2 ((0 : Nat) + (1 : Nat)) h2_1 →
 needS (pureL [IV.agg [IV.int IntKind.i64 v, IV.int IntKind.i64 op, IV.int IntKind.i64 im, IV.int IntKind.i64 iv, IV.vslice none (0 : Nat) (List.length ks) (5 : Nat) (cTs ks)]])
 (Q (IV.agg [IV.int IntKind.i64 v, IV.int IntKind.i64 op, IV.int IntKind.i64 im, IV.int IntKind.i64 iv, IV.vslice none (0 : Nat) (List.length ks) (5 : Nat) (cTs ks)]) h))
 (((0 : Int) < (2 : Int) ∧ (2 : Int) < (4611686018427387904 : Int)) ∧
 ∃ (d : Nat),
 RD h2 ((0 : Nat) + (1 : Nat)) ∧
 ((0 : Int) ≤ (0 : Int) ∧ (0 : Int) ≤ (3 : Int) ∧ (3 : Int) < (↑d : Int)) ∧
 ((1 : Int) ≤ IntKind.wrap IntKind.i64 ((1 : Int) + IntKind.wrap IntKind.i64 (Int.tdiv n (2 : Int)) % (4 : Int)) ∧
 IntKind.wrap IntKind.i64 ((1 : Int) + IntKind.wrap IntKind.i64 (Int.tdiv n (2 : Int)) % (4 : Int)) ≤ (4 : Int)) ∧
 (∀ (v op im iv : Int) (h2_1 : Heap),
 i64b v ∧ i64b op ∧ i64b im ∧ i64b iv →
 GH h2 ((0 : Nat) + (1 : Nat)) h2_1 → Q (IV.agg [IV.int IntKind.i64 v, IV.int IntKind.i64 op, IV.int IntKind.i64 im, IV.int IntKind.i64 iv, IV.vslice none (0 : Nat) (0 : Nat) (5 : Nat) []]) h) ∧
 ∀ (v op im iv : Int) (ks : List T) (io : Option Nat) (e : Nat) (h2_1 : Heap),
 i64b v ∧ i64b op ∧ i64b im ∧ i64b iv →
 oks ks →
 nums ks + (1 : Nat) ≤ (40 : Nat) →
 GH h2 ((0 : Nat) + (1 : Nat)) h2_1 →
 needS (pureL [IV.agg [IV.int IntKind.i64 v, IV.int IntKind.i64 op, IV.int IntKind.i64 im, IV.int IntKind.i64 iv, IV.vslice none (0 : Nat) (List.length ks) (5 : Nat) (cTs ks)]])
 (Q (IV.agg [IV.int IntKind.i64 v, IV.int IntKind.i64 op, IV.int IntKind.i64 im, IV.int IntKind.i64 iv, IV.vslice none (0 : Nat) (List.length ks) (5 : Nat) (cTs ks)]) h))))))) := by kernel_rfl
set_option maxHeartbeats 2000000 in
theorem sPat : ∀ xs h Q, kPat xs h Q → CallW env 12 xs h Q := by
  intro xs h Q hk
  unfold kPat at hk
  split at hk
  · rename_i e1 n1 c1
    obtain ⟨l, ⟨rfl, rfl⟩, hb, hk⟩ := hk
    refine dF_run (okRPat) (vPat l e1 h Q) ?_
    obtain ⟨hb, hl⟩ := hb
    have hmin : 0 ≤ (if (30 : Int) < (l.length : Int) then (30 : Int) else (l.length : Int)) ∧ (if (30 : Int) < (l.length : Int) then (30 : Int) else (l.length : Int)) ≤ (l.length : Int) ∧ (if (30 : Int) < (l.length : Int) then (30 : Int) else (l.length : Int)) ≤ 30 := by split <;> omega
    generalize (if (30 : Int) < (l.length : Int) then (30 : Int) else (l.length : Int)) = z at *
    refine needS_intro (by simp only [pureL, pureB, pureL_ints, Bool.and_true]) (needS_intro (by simp; omega) (brS_intro (fun c => ⟨⟨Nat.zero_lt_one, none, 1, 0, [], fun x hx => (by cases hx), rfl⟩, fun n h2 hn hr hf => ?_⟩) (fun c => needS_intro (by rw [Nat.ble_eq]; omega) ⟨⟨Nat.lt_succ_self _, some 0, (0 + (z.toNat - 0)) * 1, 0, l.take z.toNat, fun x hx => hb x (List.mem_of_mem_take hx), ?_⟩, fun n h2 hn hr hf => ?_⟩)))
    rotate_left
    · have e1 : (l.take z.toNat).length = z.toNat := by rw [List.length_take]; omega
      rw [e1]
      show IObj.cells [IV.vslice (some 0) ((0 + (z.toNat - 0)) * 1) (0 + (z.toNat - 0)) 1 ([] ++ List.take ((z.toNat - 0) * 1) (List.drop 0 (List.map (IV.int .i64) l))), IV.int .i64 0] = _
      simp [List.map_take]
    all_goals
      have hw : IntKind.i64.wrap (1 + IntKind.i64.wrap (n.tdiv 2) % 4) = 1 + IntKind.i64.wrap (n.tdiv 2) % 4 := IntWalk.i64_in _ (by omega)
      have k1 : ∀ (v op im iv : Int), i64b v ∧ i64b op ∧ i64b im ∧ i64b iv → Q (IV.agg [IV.int .i64 v, IV.int .i64 op, IV.int .i64 im, IV.int .i64 iv, IV.vslice none 0 0 5 []]) h := fun v op im iv hb3 =>
        hk v op im iv [] ⟨hb3, trivial⟩ (by simp only [T.num, nums]; omega)
      have k2 : ∀ (v op im iv : Int) (ks : List T), i64b v ∧ i64b op ∧ i64b im ∧ i64b iv → oks ks → nums ks + 1 ≤ 40 → needS (pureL [IV.agg [IV.int .i64 v, IV.int .i64 op, IV.int .i64 im, IV.int .i64 iv, IV.vslice none 0 ks.length 5 (cTs ks)]]) (Q (IV.agg [IV.int .i64 v, IV.int .i64 op, IV.int .i64 im, IV.int .i64 iv, IV.vslice none 0 ks.length 5 (cTs ks)]) h) :=
        fun v op im iv ks hb3 hok hnum => needS_intro (by simp only [pureL, pureB, pureL_cTs, Bool.and_true]) (hk v op im iv ks ⟨hb3, hok⟩ (by simp only [T.num]; omega))
      refine ⟨by omega, by omega, by omega, brS_intro (fun _ => ⟨4, hr, by omega, by rw [hw]; omega, fun v op im iv h3 hb3 _ => k1 v op im iv hb3, fun v op im iv ks io e h3 hb3 hok hnum _ => k2 v op im iv ks hb3 hok hnum⟩)
        (fun _ => ⟨by omega, 4, hr, by omega, by rw [hw]; omega, fun v op im iv h3 hb3 _ => k1 v op im iv hb3, fun v op im iv ks io e h3 hb3 hok hnum _ => k2 v op im iv ks hb3 hok hnum⟩)⟩
  · exact hk.elim
def cPat := addC 12 kPat cRPat
theorem okPat : Sound env cPat := sound_add sPat (okRPat)

def szInv (ks : List T) : Inv' := atX Nat (fun i => [(3, .v (.int .i64 (sizes 1 (ks.take i)))), (7, .v (.vslice none 0 ks.length 5 (cTs ks))), (8, .v (.int .i64 ks.length)), (9, .v (.int .i64 i))]) (fun _ => []) (fun _ => Heap.empty) (fun i => i ≤ ks.length) (fun i => ks.length - i)
def kSize (d : Nat) (xs : List IV) (h : Heap) (K : IV → Heap → Prop) : Prop := match xs with
  | [.agg [.int .i64 v, .int .i64 op, .int .i64 im, .int .i64 iv, .vslice none e1 n1 5 c1]] => ∃ ks : List T, (n1 = ks.length ∧ c1 = cTs ks) ∧ (nums ks < d ∧ thins ks ∧ ks.length ≤ 1000000000000000) ∧ K (.int .i64 (sizes 1 ks)) h
  | _ => False
set_option maxRecDepth 100000 in
theorem vSize (dd : Nat) (v op im iv : Int) (ks : List T) (e1 : Nat) (h : Heap) (Q : IV → Heap → Prop) : dF (stdS (addC 11 (kSize dd) cPat)) env 11 noU (ic1 4 (szInv ks)) noI [.agg [.int .i64 v, .int .i64 op, .int .i64 im, .int .i64 iv, .vslice none e1 (ks).length 5 (cTs ks)]] h Q = (
  needS (pureL [IV.agg [IV.int IntKind.i64 v, IV.int IntKind.i64 op, IV.int IntKind.i64 im, IV.int IntKind.i64 iv, IV.vslice none (0 : Nat) (List.length ks) (5 : Nat) (cTs ks)]])
 ((∃ (x : Nat),
 some (TV.v (IV.int IntKind.i64 (1 : Int))) = some (TV.v (IV.int IntKind.i64 (sizes (1 : Int) (List.take x ks)))) ∧
 some (TV.v (IV.vslice none (0 : Nat) (List.length ks) (5 : Nat) (cTs ks))) = some (TV.v (IV.vslice none (0 : Nat) (List.length ks) (5 : Nat) (cTs ks))) ∧
 some (TV.v (IV.int IntKind.i64 (↑(List.length ks) : Int))) = some (TV.v (IV.int IntKind.i64 (↑(List.length ks) : Int))) ∧
 some (TV.v (IV.int IntKind.i64 (0 : Int))) = some (TV.v (IV.int IntKind.i64 (↑x : Int))) ∧ Heap.mk PT.nil (0 : Nat) = Heap.mk PT.nil (0 : Nat) ∧ Nat.le x (List.length ks) ∧ True) ∧
 ∀ (x : Nat) (b : FF),
 x ≤ List.length ks →
 brS (decide ((↑x : Int) < (↑(List.length ks) : Int)))
 (needS (decide ((0 : Int) ≤ (↑x : Int)) && decide ((↑x : Int) < (↑(List.length ks) : Int)))
 (ldIS IntKind.i64 (cTs ks) (Int.toNat (↑x : Int) * (5 : Nat)) fun (n0 : Int) =>
 ldIS IntKind.i64 (cTs ks) (Int.toNat (↑x : Int) * (5 : Nat) + (1 : Nat)) fun (n1 : Int) =>
 ldIS IntKind.i64 (cTs ks) (Int.toNat (↑x : Int) * (5 : Nat) + (1 : Nat) + (1 : Nat)) fun (n2 : Int) =>
 ldIS IntKind.i64 (cTs ks) (Int.toNat (↑x : Int) * (5 : Nat) + (1 : Nat) + (1 : Nat) + (1 : Nat)) fun (n3 : Int) =>
 ldVS (5 : Nat) (cTs ks) (Int.toNat (↑x : Int) * (5 : Nat) + (1 : Nat) + (1 : Nat) + (1 : Nat) + (1 : Nat)) fun (i4 : Option Nat) (e5 l6 : Nat) (c7 : List IV) =>
 ∃ (ks_1 : List T),
 (l6 = List.length ks_1 ∧ c7 = cTs ks_1) ∧
 (nums ks_1 < dd ∧ thins ks_1 ∧ List.length ks_1 ≤ (1000000000000000 : Nat)) ∧
 ∃ (x_1 : Nat),
 some (TV.v (IV.int IntKind.i64 (IntKind.wrap IntKind.i64 (sizes (1 : Int) (List.take x ks) + sizes (1 : Int) ks_1)))) = some (TV.v (IV.int IntKind.i64 (sizes (1 : Int) (List.take x_1 ks)))) ∧
 some (TV.v (IV.vslice none (0 : Nat) (List.length ks) (5 : Nat) (cTs ks))) = some (TV.v (IV.vslice none (0 : Nat) (List.length ks) (5 : Nat) (cTs ks))) ∧
 some (TV.v (IV.int IntKind.i64 (↑(List.length ks) : Int))) = some (TV.v (IV.int IntKind.i64 (↑(List.length ks) : Int))) ∧
 some (TV.v (IV.int IntKind.i64 (IntKind.wrap IntKind.i64 ((↑x : Int) + (1 : Int))))) = some (TV.v (IV.int IntKind.i64 (↑x_1 : Int))) ∧
 Heap.mk PT.nil (0 : Nat) = Heap.mk PT.nil (0 : Nat) ∧ Nat.le x_1 (List.length ks) ∧ List.length ks - x_1 < List.length ks - x))
 (Q (IV.int IntKind.i64 (sizes (1 : Int) (List.take x ks))) h))) := by kernel_rfl
set_option maxHeartbeats 1000000 in
theorem rSize : ∀ d xs h Q, kSize d xs h Q → CallW env 11 xs h Q := by
  intro d
  induction d with
  | zero =>
    intro xs h Q hk
    unfold kSize at hk
    split at hk
    · rename_i v op im iv e1 n1 c1
      obtain ⟨ks, ⟨rfl, rfl⟩, hb, hk⟩ := hk
      skip
      omega
    · exact hk.elim
  | succ dd ih =>
    intro xs h Q hk
    unfold kSize at hk
    split at hk
    · rename_i v op im iv e1 n1 c1
      obtain ⟨ks, ⟨rfl, rfl⟩, hb, hk⟩ := hk
      refine dF_run (sound_add ih (okPat)) (vSize dd v op im iv ks e1 h Q) ?_
      have hks : ∀ i (h : i < ks.length), nums ks[i].ks < dd ∧ thins ks[i].ks ∧ ks[i].ks.length ≤ 1000000000000000 := fun i hi => by
        have h1 := num_lt (List.getElem_mem hi)
        have h2 := thin_ks (thin_kid hb.2.1 (List.getElem_mem hi))
        refine ⟨?_, h2.2, h2.1⟩
        generalize ks[i] = t at *
        cases t
        simp only [T.num, T.ks] at *
        omega
      refine needS_intro (by simp only [pureL, pureB, pureL_cTs, Bool.and_true]) ⟨⟨0, ?_⟩, fun i _ hi => brS_intro (fun c => ?_) (fun c => ?_)⟩
      · repeat (refine And.intro (by first | rfl | exact True.intro) ?_)
        exact ⟨Nat.zero_le _, trivial⟩
      · simp only [decide_eq_true_eq] at c
        have hlt : i < ks.length := by omega
        refine needS_intro (by simp; omega) (ldT hlt (by simp) ⟨ks[i].ks, ⟨rfl, rfl⟩, hks i hlt, ⟨i + 1, ?_⟩⟩)
        repeat (refine And.intro (by first | rfl | exact True.intro) ?_)
        refine ⟨by rw [sizes_next hlt], ?_⟩
        repeat (refine And.intro (by first | rfl | exact True.intro) ?_)
        refine ⟨by rw [IntWalk.i64_in _ (by omega)]; rfl, ?_⟩
        repeat (refine And.intro (by first | rfl | exact True.intro) ?_)
        exact ⟨hlt, by omega⟩
      · simp only [decide_eq_false_iff_not] at c
        rw [List.take_of_length_le (by omega)]
        exact hk
    · exact hk.elim
def cSize := addC 11 (fun xs h K => ∃ d, kSize d xs h K) cPat
theorem okSize : Sound env cSize := sound_add (fun xs h Q hk => hk.elim fun d hk => rSize d xs h Q hk) (okPat)

def rszInv (v op im iv : Int) (ks : List T) : Inv' := atX Nat (fun i => [(1, .l 1 0), (3, .v (.int .i64 (sizes 1 (ks.take i)))), (4, .v (.int .i64 i))]) (fun _ => [(1, [.int .i64 v, .int .i64 op, .int .i64 im, .int .i64 iv, .vslice none 0 ks.length 5 (cTs ks)])]) (fun _ => Heap.empty) (fun i => i ≤ ks.length) (fun i => ks.length - i)
def kRSize (d : Nat) (xs : List IV) (h : Heap) (K : IV → Heap → Prop) : Prop := match xs with
  | [.agg [.int .i64 v, .int .i64 op, .int .i64 im, .int .i64 iv, .vslice none e1 n1 5 c1]] => ∃ ks : List T, (n1 = ks.length ∧ c1 = cTs ks) ∧ (nums ks < d ∧ thins ks ∧ ks.length ≤ 1000000000000000) ∧ K (.int .i64 (sizes 1 ks)) h
  | _ => False
set_option maxRecDepth 100000 in
theorem vRSize (dd : Nat) (v op im iv : Int) (ks : List T) (e1 : Nat) (h : Heap) (Q : IV → Heap → Prop) : dF (stdS (addC 21 (kRSize dd) cSize)) env 21 noU (ic1 4 (rszInv v op im iv ks)) noI [.agg [.int .i64 v, .int .i64 op, .int .i64 im, .int .i64 iv, .vslice none e1 (ks).length 5 (cTs ks)]] h Q = (
  needS (pureL [IV.agg [IV.int IntKind.i64 v, IV.int IntKind.i64 op, IV.int IntKind.i64 im, IV.int IntKind.i64 iv, IV.vslice none (0 : Nat) (List.length ks) (5 : Nat) (cTs ks)]])
 ((∃ (x : Nat),
 some (TV.l (1 : Nat) (0 : Nat)) = some (TV.l (1 : Nat) (0 : Nat)) ∧
 some (TV.v (IV.int IntKind.i64 (1 : Int))) = some (TV.v (IV.int IntKind.i64 (sizes (1 : Int) (List.take x ks)))) ∧
 some (TV.v (IV.int IntKind.i64 (0 : Int))) = some (TV.v (IV.int IntKind.i64 (↑x : Int))) ∧
 some [IV.int IntKind.i64 v, IV.int IntKind.i64 op, IV.int IntKind.i64 im, IV.int IntKind.i64 iv, IV.vslice none (0 : Nat) (List.length ks) (5 : Nat) (cTs ks)] =
 some [IV.int IntKind.i64 v, IV.int IntKind.i64 op, IV.int IntKind.i64 im, IV.int IntKind.i64 iv, IV.vslice none (0 : Nat) (List.length ks) (5 : Nat) (cTs ks)] ∧
 Heap.mk PT.nil (0 : Nat) = Heap.mk PT.nil (0 : Nat) ∧ Nat.le x (List.length ks) ∧ True) ∧
 ∀ (x : Nat) (b : FF),
 x ≤ List.length ks →
 brS (decide ((↑x : Int) < (↑(List.length ks) : Int)))
 (needS (decide ((0 : Int) ≤ (↑x : Int)) && decide ((↑x : Int) < (↑(List.length ks) : Int)))
 (ldIS IntKind.i64 (cTs ks) (Int.toNat (↑x : Int) * (5 : Nat)) fun (n0 : Int) =>
 ldIS IntKind.i64 (cTs ks) (Int.toNat (↑x : Int) * (5 : Nat) + (1 : Nat)) fun (n1 : Int) =>
 ldIS IntKind.i64 (cTs ks) (Int.toNat (↑x : Int) * (5 : Nat) + (1 : Nat) + (1 : Nat)) fun (n2 : Int) =>
 ldIS IntKind.i64 (cTs ks) (Int.toNat (↑x : Int) * (5 : Nat) + (1 : Nat) + (1 : Nat) + (1 : Nat)) fun (n3 : Int) =>
 ldVS (5 : Nat) (cTs ks) (Int.toNat (↑x : Int) * (5 : Nat) + (1 : Nat) + (1 : Nat) + (1 : Nat) + (1 : Nat)) fun (i4 : Option Nat) (e5 l6 : Nat) (c7 : List IV) =>
 ∃ (ks_1 : List T),
 (l6 = List.length ks_1 ∧ c7 = cTs ks_1) ∧
 (nums ks_1 < dd ∧ thins ks_1 ∧ List.length ks_1 ≤ (1000000000000000 : Nat)) ∧
 ∃ (x_1 : Nat),
 some (TV.l (1 : Nat) (0 : Nat)) = some (TV.l (1 : Nat) (0 : Nat)) ∧
 some (TV.v (IV.int IntKind.i64 (IntKind.wrap IntKind.i64 (sizes (1 : Int) (List.take x ks) + sizes (1 : Int) ks_1)))) = some (TV.v (IV.int IntKind.i64 (sizes (1 : Int) (List.take x_1 ks)))) ∧
 some (TV.v (IV.int IntKind.i64 (IntKind.wrap IntKind.i64 ((↑x : Int) + (1 : Int))))) = some (TV.v (IV.int IntKind.i64 (↑x_1 : Int))) ∧
 some [IV.int IntKind.i64 v, IV.int IntKind.i64 op, IV.int IntKind.i64 im, IV.int IntKind.i64 iv, IV.vslice none (0 : Nat) (List.length ks) (5 : Nat) (cTs ks)] =
 some [IV.int IntKind.i64 v, IV.int IntKind.i64 op, IV.int IntKind.i64 im, IV.int IntKind.i64 iv, IV.vslice none (0 : Nat) (List.length ks) (5 : Nat) (cTs ks)] ∧
 Heap.mk PT.nil (0 : Nat) = Heap.mk PT.nil (0 : Nat) ∧ Nat.le x_1 (List.length ks) ∧ List.length ks - x_1 < List.length ks - x))
 (Q (IV.int IntKind.i64 (sizes (1 : Int) (List.take x ks))) h))) := by kernel_rfl
set_option maxHeartbeats 1000000 in
theorem rRSize : ∀ d xs h Q, kRSize d xs h Q → CallW env 21 xs h Q := by
  intro d
  induction d with
  | zero =>
    intro xs h Q hk
    unfold kRSize at hk
    split at hk
    · rename_i v op im iv e1 n1 c1
      obtain ⟨ks, ⟨rfl, rfl⟩, hb, hk⟩ := hk
      skip
      omega
    · exact hk.elim
  | succ dd ih =>
    intro xs h Q hk
    unfold kRSize at hk
    split at hk
    · rename_i v op im iv e1 n1 c1
      obtain ⟨ks, ⟨rfl, rfl⟩, hb, hk⟩ := hk
      refine dF_run (sound_add ih (okSize)) (vRSize dd v op im iv ks e1 h Q) ?_
      have hks : ∀ i (h : i < ks.length), nums ks[i].ks < dd ∧ thins ks[i].ks ∧ ks[i].ks.length ≤ 1000000000000000 := fun i hi => by
        have h1 := num_lt (List.getElem_mem hi)
        have h2 := thin_ks (thin_kid hb.2.1 (List.getElem_mem hi))
        refine ⟨?_, h2.2, h2.1⟩
        generalize ks[i] = t at *
        cases t
        simp only [T.num, T.ks] at *
        omega
      refine needS_intro (by simp only [pureL, pureB, pureL_cTs, Bool.and_true]) ⟨⟨0, ?_⟩, fun i _ hi => brS_intro (fun c => ?_) (fun c => ?_)⟩
      · repeat (refine And.intro (by first | rfl | exact True.intro) ?_)
        exact ⟨Nat.zero_le _, trivial⟩
      · simp only [decide_eq_true_eq] at c
        have hlt : i < ks.length := by omega
        refine needS_intro (by simp; omega) (ldT hlt (by simp) ⟨ks[i].ks, ⟨rfl, rfl⟩, hks i hlt, ⟨i + 1, ?_⟩⟩)
        repeat (refine And.intro (by first | rfl | exact True.intro) ?_)
        refine ⟨by rw [sizes_next hlt], ?_⟩
        repeat (refine And.intro (by first | rfl | exact True.intro) ?_)
        refine ⟨by rw [IntWalk.i64_in _ (by omega)]; rfl, ?_⟩
        repeat (refine And.intro (by first | rfl | exact True.intro) ?_)
        exact ⟨hlt, by omega⟩
      · simp only [decide_eq_false_iff_not] at c
        rw [List.take_of_length_le (by omega)]
        exact hk
    · exact hk.elim
def cRSize := addC 21 (fun xs h K => ∃ d, kRSize d xs h K) cSize
theorem okRSize : Sound env cRSize := sound_add (fun xs h Q hk => hk.elim fun d hk => rRSize d xs h Q hk) (okSize)

def kExT (xs : List IV) (h : Heap) (K : IV → Heap → Prop) : Prop := match xs with
  | [] => K (.bool true) h
  | _ => False
theorem sExT : ∀ xs h Q, kExT xs h Q → CallW env 3 xs h Q := by
  intro xs h Q hk
  unfold kExT at hk
  split at hk
  · exact ⟨200, .bool true, h, by kernel_rfl, hk⟩
  · exact hk.elim
def cExT := addC 3 kExT cRSize
theorem okExT : Sound env cExT := sound_add sExT (okRSize)

end Go.Proofs.Ytmfnadojephcpaa
