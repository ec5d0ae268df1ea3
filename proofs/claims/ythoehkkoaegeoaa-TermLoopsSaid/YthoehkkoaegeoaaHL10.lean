/-
  Terms: the statement TermLoops.
  Conditions: none.
-/
import Derived.Test.YthoehkkoaegeoaaGL10
import Derived.Test.YthoehkkoaegeoaaYL10
import Derived.KernelRfl
set_option linter.unusedVariables false
set_option linter.unusedSimpArgs false
namespace Go.Proofs.Ythoehkkoaegeoaa
open Go.Pv Go.M15 Go.M10 Go.M29
def kExT (xs : List IV) (h : Heap) (K : IV → Heap → Prop) : Prop := match xs with
  | [] => K (.bool true) h
  | _ => False
theorem sExT : ∀ xs h Q, kExT xs h Q → CallW env 8 xs h Q := by
  intro xs h Q hk
  unfold kExT at hk
  split at hk
  · exact ⟨200, .bool true, h, by kernel_rfl, hk⟩
  · exact hk.elim
def cExT := addC 8 kExT cPParse
theorem okExT : Sound env cExT := sound_add sExT (okPParse)

def tlA (w : Int) : Inv' := atX (Nat × Nat × Int × List Int × Option Nat × Nat × Heap) (fun x => [(2, .v (.int .i64 w)), (7, .v (.int .i64 (x.2.1 : Int))), (9, .v (.vslice none 1 3 3 [.int .i64 26, .int .i64 0, .vslice none 0 0 1 [], .int .i64 1, .int .i64 7, .vslice none 0 0 1 [], .int .i64 2, .int .i64 1, .vslice none 0 0 1 []])), (10, .l 10 0), (11, .v (.int .i64 (x.1 : Int)))]) (fun x => [(10, [.int .i64 31, .int .i64 x.2.2.1, .vslice x.2.2.2.2.1 x.2.2.2.2.2.1 x.2.2.2.1.length 1 (x.2.2.2.1.map (IV.int .i64))])]) (fun x => x.2.2.2.2.2.2) (fun x => TLc x.1 x.2.1 x.2.2.1 ∧ x.2.2.2.1 = 0 :: kA 1 (x.1 - 1) ∧ KI x.2.2.2.2.1 x.2.2.2.2.2.1 x.2.2.2.1 x.2.2.2.2.2.2) (fun x => x.2.1 - x.1)
def tlB (w : Int) : Inv' := atX (Nat × Nat × Int × List Int × Option Nat × Nat × Heap) (fun x => [(2, .v (.int .i64 w)), (7, .v (.int .i64 (x.2.1 : Int))), (9, .v (.vslice none 1 3 3 [.int .i64 26, .int .i64 0, .vslice none 0 0 1 [], .int .i64 1, .int .i64 7, .vslice none 0 0 1 [], .int .i64 2, .int .i64 1, .vslice none 0 0 1 []])), (10, .l 10 0), (12, .v (.int .i64 (x.1 : Int)))]) (fun x => [(10, [.int .i64 31, .int .i64 x.2.2.1, .vslice x.2.2.2.2.1 x.2.2.2.2.2.1 x.2.2.2.1.length 1 (x.2.2.2.1.map (IV.int .i64))])]) (fun x => x.2.2.2.2.2.2) (fun x => TLc x.1 x.2.1 x.2.2.1 ∧ x.2.2.2.1 = 0 :: (kA 1 (x.2.1 - 1) ++ (2 :: 0 :: kB 1 (x.1 - 1))) ∧ KI x.2.2.2.2.1 x.2.2.2.2.2.1 x.2.2.2.1 x.2.2.2.2.2.2) (fun x => x.2.1 - x.1)
def kLoopL (xs : List IV) (h : Heap) (K : IV → Heap → Prop) : Prop := match xs with
  | [.int .i64 k0, .int .i64 m0, .int .i64 w] => K (.bool true) h
  | _ => False
set_option maxRecDepth 100000 in
theorem vLoopL (k0 m0 w : Int) (h : Heap) (Q : IV → Heap → Prop) : dF (stdS cExT) env 5 noU (icA 7 (tlA w) (ic1 12 (tlB w))) noI [.int .i64 k0, .int .i64 m0, .int .i64 w] h Q = (
  ((0 : Int) < (16 : Int) ∧ (16 : Int) < (4611686018427387904 : Int)) ∧
 ((0 : Int) < (16 : Int) ∧ (16 : Int) < (4611686018427387904 : Int)) ∧
 (∃ (x : Nat × Nat × Int × List Int × Option Nat × Nat × Heap),
 some (TV.v (IV.int IntKind.i64 w)) = some (TV.v (IV.int IntKind.i64 w)) ∧
 some (TV.v (IV.int IntKind.i64 (IntKind.wrap IntKind.i64 ((1 : Int) + k0 % (16 : Int))))) = some (TV.v (IV.int IntKind.i64 (↑(Prod.fst (Prod.snd x)) : Int))) ∧
 some
 (TV.v
 (IV.vslice none (1 : Nat) (3 : Nat) (3 : Nat)
 [IV.int IntKind.i64 (26 : Int), IV.int IntKind.i64 (0 : Int), IV.vslice none (0 : Nat) (0 : Nat) (1 : Nat) [], IV.int IntKind.i64 (1 : Int), IV.int IntKind.i64 (7 : Int),
 IV.vslice none (0 : Nat) (0 : Nat) (1 : Nat) [], IV.int IntKind.i64 (2 : Int), IV.int IntKind.i64 (1 : Int), IV.vslice none (0 : Nat) (0 : Nat) (1 : Nat) []])) =
 some
 (TV.v
 (IV.vslice none (1 : Nat) (3 : Nat) (3 : Nat)
 [IV.int IntKind.i64 (26 : Int), IV.int IntKind.i64 (0 : Int), IV.vslice none (0 : Nat) (0 : Nat) (1 : Nat) [], IV.int IntKind.i64 (1 : Int), IV.int IntKind.i64 (7 : Int),
 IV.vslice none (0 : Nat) (0 : Nat) (1 : Nat) [], IV.int IntKind.i64 (2 : Int), IV.int IntKind.i64 (1 : Int), IV.vslice none (0 : Nat) (0 : Nat) (1 : Nat) []])) ∧
 some (TV.l (10 : Nat) (0 : Nat)) = some (TV.l (10 : Nat) (0 : Nat)) ∧
 some (TV.v (IV.int IntKind.i64 (1 : Int))) = some (TV.v (IV.int IntKind.i64 (↑(Prod.fst x) : Int))) ∧
 some [IV.int IntKind.i64 (31 : Int), IV.int IntKind.i64 (m0 % (16 : Int)), IV.vslice none (1 : Nat) (1 : Nat) (1 : Nat) [IV.int IntKind.i64 (0 : Int)]] =
 some
 [IV.int IntKind.i64 (31 : Int), IV.int IntKind.i64 (Prod.fst (Prod.snd (Prod.snd x))),
 IV.vslice (Prod.fst (Prod.snd (Prod.snd (Prod.snd (Prod.snd x))))) (Prod.fst (Prod.snd (Prod.snd (Prod.snd (Prod.snd (Prod.snd x)))))) (List.length (Prod.fst (Prod.snd (Prod.snd (Prod.snd x))))) (1 : Nat)
 (List.map (IV.int IntKind.i64) (Prod.fst (Prod.snd (Prod.snd (Prod.snd x)))))] ∧
 Heap.mk PT.nil (0 : Nat) = Prod.snd (Prod.snd (Prod.snd (Prod.snd (Prod.snd (Prod.snd x))))) ∧
 (TLc (Prod.fst x) (Prod.fst (Prod.snd x)) (Prod.fst (Prod.snd (Prod.snd x))) ∧
 Prod.fst (Prod.snd (Prod.snd (Prod.snd x))) = (0 : Int) :: kA (1 : Nat) (Prod.fst x - (1 : Nat)) ∧
 KI (Prod.fst (Prod.snd (Prod.snd (Prod.snd (Prod.snd x))))) (Prod.fst (Prod.snd (Prod.snd (Prod.snd (Prod.snd (Prod.snd x)))))) (Prod.fst (Prod.snd (Prod.snd (Prod.snd x))))
 (Prod.snd (Prod.snd (Prod.snd (Prod.snd (Prod.snd (Prod.snd x))))))) ∧
 True) ∧
 ∀ (x : Nat × Nat × Int × List Int × Option Nat × Nat × Heap) (b : FF),
 TLc (Prod.fst x) (Prod.fst (Prod.snd x)) (Prod.fst (Prod.snd (Prod.snd x))) ∧
 Prod.fst (Prod.snd (Prod.snd (Prod.snd x))) = (0 : Int) :: kA (1 : Nat) (Prod.fst x - (1 : Nat)) ∧
 KI (Prod.fst (Prod.snd (Prod.snd (Prod.snd (Prod.snd x))))) (Prod.fst (Prod.snd (Prod.snd (Prod.snd (Prod.snd (Prod.snd x)))))) (Prod.fst (Prod.snd (Prod.snd (Prod.snd x))))
 (Prod.snd (Prod.snd (Prod.snd (Prod.snd (Prod.snd (Prod.snd x)))))) →
 brS (decide ((↑(Prod.fst x) : Int) < (↑(Prod.fst (Prod.snd x)) : Int)))
 (appGS (Prod.snd (Prod.snd (Prod.snd (Prod.snd (Prod.snd (Prod.snd x)))))) (1 : Nat) (8 : Nat)
 (IV.vslice (Prod.fst (Prod.snd (Prod.snd (Prod.snd (Prod.snd x))))) (Prod.fst (Prod.snd (Prod.snd (Prod.snd (Prod.snd (Prod.snd x)))))) (List.length (Prod.fst (Prod.snd (Prod.snd (Prod.snd x))))) (1 : Nat)
 (List.map (IV.int IntKind.i64) (Prod.fst (Prod.snd (Prod.snd (Prod.snd x))))))
 (1 : Nat) [IV.int IntKind.i64 (IntKind.wrap IntKind.i64 ((1 : Int) + Int.tmod (↑(Prod.fst x) : Int) (2 : Int)))] fun (i0 e1 l2 : Nat) (c3 : List IV) (g4 : Heap) =>
 ∃ (x_1 : Nat × Nat × Int × List Int × Option Nat × Nat × Heap),
 some (TV.v (IV.int IntKind.i64 w)) = some (TV.v (IV.int IntKind.i64 w)) ∧
 some (TV.v (IV.int IntKind.i64 (↑(Prod.fst (Prod.snd x)) : Int))) = some (TV.v (IV.int IntKind.i64 (↑(Prod.fst (Prod.snd x_1)) : Int))) ∧
 some
 (TV.v
 (IV.vslice none (1 : Nat) (3 : Nat) (3 : Nat)
 [IV.int IntKind.i64 (26 : Int), IV.int IntKind.i64 (0 : Int), IV.vslice none (0 : Nat) (0 : Nat) (1 : Nat) [], IV.int IntKind.i64 (1 : Int), IV.int IntKind.i64 (7 : Int),
 IV.vslice none (0 : Nat) (0 : Nat) (1 : Nat) [], IV.int IntKind.i64 (2 : Int), IV.int IntKind.i64 (1 : Int), IV.vslice none (0 : Nat) (0 : Nat) (1 : Nat) []])) =
 some
 (TV.v
 (IV.vslice none (1 : Nat) (3 : Nat) (3 : Nat)
 [IV.int IntKind.i64 (26 : Int), IV.int IntKind.i64 (0 : Int), IV.vslice none (0 : Nat) (0 : Nat) (1 : Nat) [], IV.int IntKind.i64 (1 : Int), IV.int IntKind.i64 (7 : Int),
 IV.vslice none (0 : Nat) (0 : Nat) (1 : Nat) [], IV.int IntKind.i64 (2 : Int), IV.int IntKind.i64 (1 : Int), IV.vslice none (0 : Nat) (0 : Nat) (1 : Nat) []])) ∧
 some (TV.l (10 : Nat) (0 : Nat)) = some (TV.l (10 : Nat) (0 : Nat)) ∧
 some (TV.v (IV.int IntKind.i64 (IntKind.wrap IntKind.i64 ((↑(Prod.fst x) : Int) + (1 : Int))))) = some (TV.v (IV.int IntKind.i64 (↑(Prod.fst x_1) : Int))) ∧
 some [IV.int IntKind.i64 (31 : Int), IV.int IntKind.i64 (Prod.fst (Prod.snd (Prod.snd x))), IV.vslice (some i0) e1 l2 (1 : Nat) c3] =
 some
 [IV.int IntKind.i64 (31 : Int), IV.int IntKind.i64 (Prod.fst (Prod.snd (Prod.snd x_1))),
 IV.vslice (Prod.fst (Prod.snd (Prod.snd (Prod.snd (Prod.snd x_1))))) (Prod.fst (Prod.snd (Prod.snd (Prod.snd (Prod.snd (Prod.snd x_1)))))) (List.length (Prod.fst (Prod.snd (Prod.snd (Prod.snd x_1)))))
 (1 : Nat) (List.map (IV.int IntKind.i64) (Prod.fst (Prod.snd (Prod.snd (Prod.snd x_1)))))] ∧
 g4 = Prod.snd (Prod.snd (Prod.snd (Prod.snd (Prod.snd (Prod.snd x_1))))) ∧
 (TLc (Prod.fst x_1) (Prod.fst (Prod.snd x_1)) (Prod.fst (Prod.snd (Prod.snd x_1))) ∧
 Prod.fst (Prod.snd (Prod.snd (Prod.snd x_1))) = (0 : Int) :: kA (1 : Nat) (Prod.fst x_1 - (1 : Nat)) ∧
 KI (Prod.fst (Prod.snd (Prod.snd (Prod.snd (Prod.snd x_1))))) (Prod.fst (Prod.snd (Prod.snd (Prod.snd (Prod.snd (Prod.snd x_1)))))) (Prod.fst (Prod.snd (Prod.snd (Prod.snd x_1))))
 (Prod.snd (Prod.snd (Prod.snd (Prod.snd (Prod.snd (Prod.snd x_1))))))) ∧
 Prod.fst (Prod.snd x_1) - Prod.fst x_1 < Prod.fst (Prod.snd x) - Prod.fst x)
 (appGS (Prod.snd (Prod.snd (Prod.snd (Prod.snd (Prod.snd (Prod.snd x)))))) (1 : Nat) (8 : Nat)
 (IV.vslice (Prod.fst (Prod.snd (Prod.snd (Prod.snd (Prod.snd x))))) (Prod.fst (Prod.snd (Prod.snd (Prod.snd (Prod.snd (Prod.snd x)))))) (List.length (Prod.fst (Prod.snd (Prod.snd (Prod.snd x))))) (1 : Nat)
 (List.map (IV.int IntKind.i64) (Prod.fst (Prod.snd (Prod.snd (Prod.snd x))))))
 (2 : Nat) [IV.int IntKind.i64 (2 : Int), IV.int IntKind.i64 (0 : Int)] fun (i5 e6 l7 : Nat) (c8 : List IV) (g9 : Heap) =>
 (∃ (x_1 : Nat × Nat × Int × List Int × Option Nat × Nat × Heap),
 some (TV.v (IV.int IntKind.i64 w)) = some (TV.v (IV.int IntKind.i64 w)) ∧
 some (TV.v (IV.int IntKind.i64 (↑(Prod.fst (Prod.snd x)) : Int))) = some (TV.v (IV.int IntKind.i64 (↑(Prod.fst (Prod.snd x_1)) : Int))) ∧
 some
 (TV.v
 (IV.vslice none (1 : Nat) (3 : Nat) (3 : Nat)
 [IV.int IntKind.i64 (26 : Int), IV.int IntKind.i64 (0 : Int), IV.vslice none (0 : Nat) (0 : Nat) (1 : Nat) [], IV.int IntKind.i64 (1 : Int), IV.int IntKind.i64 (7 : Int),
 IV.vslice none (0 : Nat) (0 : Nat) (1 : Nat) [], IV.int IntKind.i64 (2 : Int), IV.int IntKind.i64 (1 : Int), IV.vslice none (0 : Nat) (0 : Nat) (1 : Nat) []])) =
 some
 (TV.v
 (IV.vslice none (1 : Nat) (3 : Nat) (3 : Nat)
 [IV.int IntKind.i64 (26 : Int), IV.int IntKind.i64 (0 : Int), IV.vslice none (0 : Nat) (0 : Nat) (1 : Nat) [], IV.int IntKind.i64 (1 : Int), IV.int IntKind.i64 (7 : Int),
 IV.vslice none (0 : Nat) (0 : Nat) (1 : Nat) [], IV.int IntKind.i64 (2 : Int), IV.int IntKind.i64 (1 : Int), IV.vslice none (0 : Nat) (0 : Nat) (1 : Nat) []])) ∧
 some (TV.l (10 : Nat) (0 : Nat)) = some (TV.l (10 : Nat) (0 : Nat)) ∧
 some (TV.v (IV.int IntKind.i64 (1 : Int))) = some (TV.v (IV.int IntKind.i64 (↑(Prod.fst x_1) : Int))) ∧
 some [IV.int IntKind.i64 (31 : Int), IV.int IntKind.i64 (Prod.fst (Prod.snd (Prod.snd x))), IV.vslice (some i5) e6 l7 (1 : Nat) c8] =
 some
 [IV.int IntKind.i64 (31 : Int), IV.int IntKind.i64 (Prod.fst (Prod.snd (Prod.snd x_1))),
 IV.vslice (Prod.fst (Prod.snd (Prod.snd (Prod.snd (Prod.snd x_1))))) (Prod.fst (Prod.snd (Prod.snd (Prod.snd (Prod.snd (Prod.snd x_1)))))) (List.length (Prod.fst (Prod.snd (Prod.snd (Prod.snd x_1)))))
 (1 : Nat) (List.map (IV.int IntKind.i64) (Prod.fst (Prod.snd (Prod.snd (Prod.snd x_1)))))] ∧
 g9 = Prod.snd (Prod.snd (Prod.snd (Prod.snd (Prod.snd (Prod.snd x_1))))) ∧
 (TLc (Prod.fst x_1) (Prod.fst (Prod.snd x_1)) (Prod.fst (Prod.snd (Prod.snd x_1))) ∧
 Prod.fst (Prod.snd (Prod.snd (Prod.snd x_1))) = (0 : Int) :: (kA (1 : Nat) (Prod.fst (Prod.snd x_1) - (1 : Nat)) ++ (2 : Int) :: (0 : Int) :: kB (1 : Nat) (Prod.fst x_1 - (1 : Nat))) ∧
 KI (Prod.fst (Prod.snd (Prod.snd (Prod.snd (Prod.snd x_1))))) (Prod.fst (Prod.snd (Prod.snd (Prod.snd (Prod.snd (Prod.snd x_1)))))) (Prod.fst (Prod.snd (Prod.snd (Prod.snd x_1))))
 (Prod.snd (Prod.snd (Prod.snd (Prod.snd (Prod.snd (Prod.snd x_1))))))) ∧
 True) ∧
 ∀ (x : Nat × Nat × Int × List Int × Option Nat × Nat × Heap) (b : FF),
 TLc (Prod.fst x) (Prod.fst (Prod.snd x)) (Prod.fst (Prod.snd (Prod.snd x))) ∧
 Prod.fst (Prod.snd (Prod.snd (Prod.snd x))) = (0 : Int) :: (kA (1 : Nat) (Prod.fst (Prod.snd x) - (1 : Nat)) ++ (2 : Int) :: (0 : Int) :: kB (1 : Nat) (Prod.fst x - (1 : Nat))) ∧
 KI (Prod.fst (Prod.snd (Prod.snd (Prod.snd (Prod.snd x))))) (Prod.fst (Prod.snd (Prod.snd (Prod.snd (Prod.snd (Prod.snd x)))))) (Prod.fst (Prod.snd (Prod.snd (Prod.snd x))))
 (Prod.snd (Prod.snd (Prod.snd (Prod.snd (Prod.snd (Prod.snd x)))))) →
 brS (decide ((↑(Prod.fst x) : Int) < (↑(Prod.fst (Prod.snd x)) : Int)))
 (appGS (Prod.snd (Prod.snd (Prod.snd (Prod.snd (Prod.snd (Prod.snd x)))))) (1 : Nat) (8 : Nat)
 (IV.vslice (Prod.fst (Prod.snd (Prod.snd (Prod.snd (Prod.snd x))))) (Prod.fst (Prod.snd (Prod.snd (Prod.snd (Prod.snd (Prod.snd x)))))) (List.length (Prod.fst (Prod.snd (Prod.snd (Prod.snd x))))) (1 : Nat)
 (List.map (IV.int IntKind.i64) (Prod.fst (Prod.snd (Prod.snd (Prod.snd x))))))
 (1 : Nat) [IV.int IntKind.i64 (IntKind.wrap IntKind.i64 ((2 : Int) - Int.tmod (↑(Prod.fst x) : Int) (2 : Int)))] fun (i10 e11 l12 : Nat) (c13 : List IV) (g14 : Heap) =>
 ∃ (x_1 : Nat × Nat × Int × List Int × Option Nat × Nat × Heap),
 some (TV.v (IV.int IntKind.i64 w)) = some (TV.v (IV.int IntKind.i64 w)) ∧
 some (TV.v (IV.int IntKind.i64 (↑(Prod.fst (Prod.snd x)) : Int))) = some (TV.v (IV.int IntKind.i64 (↑(Prod.fst (Prod.snd x_1)) : Int))) ∧
 some
 (TV.v
 (IV.vslice none (1 : Nat) (3 : Nat) (3 : Nat)
 [IV.int IntKind.i64 (26 : Int), IV.int IntKind.i64 (0 : Int), IV.vslice none (0 : Nat) (0 : Nat) (1 : Nat) [], IV.int IntKind.i64 (1 : Int), IV.int IntKind.i64 (7 : Int),
 IV.vslice none (0 : Nat) (0 : Nat) (1 : Nat) [], IV.int IntKind.i64 (2 : Int), IV.int IntKind.i64 (1 : Int), IV.vslice none (0 : Nat) (0 : Nat) (1 : Nat) []])) =
 some
 (TV.v
 (IV.vslice none (1 : Nat) (3 : Nat) (3 : Nat)
 [IV.int IntKind.i64 (26 : Int), IV.int IntKind.i64 (0 : Int), IV.vslice none (0 : Nat) (0 : Nat) (1 : Nat) [], IV.int IntKind.i64 (1 : Int), IV.int IntKind.i64 (7 : Int),
 IV.vslice none (0 : Nat) (0 : Nat) (1 : Nat) [], IV.int IntKind.i64 (2 : Int), IV.int IntKind.i64 (1 : Int), IV.vslice none (0 : Nat) (0 : Nat) (1 : Nat) []])) ∧
 some (TV.l (10 : Nat) (0 : Nat)) = some (TV.l (10 : Nat) (0 : Nat)) ∧
 some (TV.v (IV.int IntKind.i64 (IntKind.wrap IntKind.i64 ((↑(Prod.fst x) : Int) + (1 : Int))))) = some (TV.v (IV.int IntKind.i64 (↑(Prod.fst x_1) : Int))) ∧
 some [IV.int IntKind.i64 (31 : Int), IV.int IntKind.i64 (Prod.fst (Prod.snd (Prod.snd x))), IV.vslice (some i10) e11 l12 (1 : Nat) c13] =
 some
 [IV.int IntKind.i64 (31 : Int), IV.int IntKind.i64 (Prod.fst (Prod.snd (Prod.snd x_1))),
 IV.vslice (Prod.fst (Prod.snd (Prod.snd (Prod.snd (Prod.snd x_1))))) (Prod.fst (Prod.snd (Prod.snd (Prod.snd (Prod.snd (Prod.snd x_1))))))
 (List.length (Prod.fst (Prod.snd (Prod.snd (Prod.snd x_1))))) (1 : Nat) (List.map (IV.int IntKind.i64) (Prod.fst (Prod.snd (Prod.snd (Prod.snd x_1)))))] ∧
 g14 = Prod.snd (Prod.snd (Prod.snd (Prod.snd (Prod.snd (Prod.snd x_1))))) ∧
 (TLc (Prod.fst x_1) (Prod.fst (Prod.snd x_1)) (Prod.fst (Prod.snd (Prod.snd x_1))) ∧
 Prod.fst (Prod.snd (Prod.snd (Prod.snd x_1))) = (0 : Int) :: (kA (1 : Nat) (Prod.fst (Prod.snd x_1) - (1 : Nat)) ++ (2 : Int) :: (0 : Int) :: kB (1 : Nat) (Prod.fst x_1 - (1 : Nat))) ∧
 KI (Prod.fst (Prod.snd (Prod.snd (Prod.snd (Prod.snd x_1))))) (Prod.fst (Prod.snd (Prod.snd (Prod.snd (Prod.snd (Prod.snd x_1)))))) (Prod.fst (Prod.snd (Prod.snd (Prod.snd x_1))))
 (Prod.snd (Prod.snd (Prod.snd (Prod.snd (Prod.snd (Prod.snd x_1))))))) ∧
 Prod.fst (Prod.snd x_1) - Prod.fst x_1 < Prod.fst (Prod.snd x) - Prod.fst x)
 (((0 : Int) < (↑(Prod.fst (Prod.snd x)) : Int) ∧ (↑(Prod.fst (Prod.snd x)) : Int) < (4611686018427387904 : Int)) ∧
 ∃ (l : List Nd),
 ((5 : Nat) = List.length l ∧
 [IV.int IntKind.i64 (26 : Int), IV.int IntKind.i64 (0 : Int), IV.vslice none (0 : Nat) (0 : Nat) (1 : Nat) [], IV.int IntKind.i64 (1 : Int), IV.int IntKind.i64 (7 : Int),
 IV.vslice none (0 : Nat) (0 : Nat) (1 : Nat) [], IV.int IntKind.i64 (2 : Int), IV.int IntKind.i64 (1 : Int), IV.vslice none (0 : Nat) (0 : Nat) (1 : Nat) [], IV.int IntKind.i64 (31 : Int),
 IV.int IntKind.i64 (Prod.fst (Prod.snd (Prod.snd x))),
 IV.vslice none (0 : Nat) (List.length (Prod.fst (Prod.snd (Prod.snd (Prod.snd x))))) (1 : Nat) (List.map (IV.int IntKind.i64) (Prod.fst (Prod.snd (Prod.snd (Prod.snd x))))), IV.int IntKind.i64 (25 : Int),
 IV.int IntKind.i64 (w % (↑(Prod.fst (Prod.snd x)) : Int)), IV.vslice none (0 : Nat) (1 : Nat) (1 : Nat) [IV.int IntKind.i64 (3 : Int)]] =
 List.flatMap cN l) ∧
 (PGL l ∧ WFG l ∧ List.length l ≤ (1000000 : Nat) ∧ (0 : Int) ≤ (4 : Int) ∧ (4 : Int) < (↑(List.length l) : Int)) ∧
 ∃ (l_1 : List Nd),
 ∃ (i : Nat),
 (RG5 l_1 l_1 ∧
 i < List.length l_1 ∧
 prn l (4 : Nat) = T10 l_1 i ∧
 List.length (prn l (4 : Nat)) ≤ (20000 : Nat) ∧
 List.length l_1 ≤ (2000 : Nat) ∧ List.getD (sortsG (Prod.fst (rdA l_1 (i + (1 : Nat)) [] (↑i : Int)))) (Int.toNat (Prod.snd (rdA l_1 (i + (1 : Nat)) [] (↑i : Int)))) (0 : Int) ≠ (0 : Int)) ∧
 brS ((↑(List.length (Prod.fst (rdA l_1 (i + (1 : Nat)) [] (↑i : Int)))) : Int) == (0 : Int)) (Q (IV.bool false) h)
 (∃ (l_2 : List Nd),
 (List.length (Prod.fst (rdA l_1 (i + (1 : Nat)) [] (↑i : Int))) = List.length l_2 ∧ List.flatMap cN (Prod.fst (rdA l_1 (i + (1 : Nat)) [] (↑i : Int))) = List.flatMap cN l_2) ∧
 ((∀ (x : Nd), x ∈ l_2 → List.length (Nd.ks x) ≤ (1000000 : Nat) ∧ Nd.op x ≠ (30 : Int)) ∧
 List.length l_2 ≤ (1000000 : Nat) ∧
 (0 : Int) ≤ IntKind.wrap IntKind.i64 ((↑(List.length (Prod.fst (rdA l_1 (i + (1 : Nat)) [] (↑i : Int)))) : Int) - (1 : Int)) ∧
 IntKind.wrap IntKind.i64 ((↑(List.length (Prod.fst (rdA l_1 (i + (1 : Nat)) [] (↑i : Int)))) : Int) - (1 : Int)) < (↑(List.length l_2) : Int)) ∧
 ∃ (l_3 : List Nd),
 ((5 : Nat) = List.length l_3 ∧
 [IV.int IntKind.i64 (26 : Int), IV.int IntKind.i64 (0 : Int), IV.vslice none (0 : Nat) (0 : Nat) (1 : Nat) [], IV.int IntKind.i64 (1 : Int), IV.int IntKind.i64 (7 : Int),
 IV.vslice none (0 : Nat) (0 : Nat) (1 : Nat) [], IV.int IntKind.i64 (2 : Int), IV.int IntKind.i64 (1 : Int), IV.vslice none (0 : Nat) (0 : Nat) (1 : Nat) [],
 IV.int IntKind.i64 (31 : Int), IV.int IntKind.i64 (Prod.fst (Prod.snd (Prod.snd x))),
 IV.vslice none (0 : Nat) (List.length (Prod.fst (Prod.snd (Prod.snd (Prod.snd x))))) (1 : Nat) (List.map (IV.int IntKind.i64) (Prod.fst (Prod.snd (Prod.snd (Prod.snd x))))),
 IV.int IntKind.i64 (25 : Int), IV.int IntKind.i64 (w % (↑(Prod.fst (Prod.snd x)) : Int)), IV.vslice none (0 : Nat) (1 : Nat) (1 : Nat) [IV.int IntKind.i64 (3 : Int)]] =
 List.flatMap cN l_3) ∧
 ((∀ (x : Nd), x ∈ l_3 → List.length (Nd.ks x) ≤ (1000000 : Nat) ∧ Nd.op x ≠ (30 : Int)) ∧ List.length l_3 ≤ (1000000 : Nat) ∧ (0 : Int) ≤ (4 : Int) ∧ (4 : Int) < (↑(List.length l_3) : Int)) ∧
 brS
 (List.getD (sortsG l_2) (Int.toNat (IntKind.wrap IntKind.i64 ((↑(List.length (Prod.fst (rdA l_1 (i + (1 : Nat)) [] (↑i : Int)))) : Int) - (1 : Int)))) (0 : Int) ==
 List.getD (sortsG l_3) (4 : Nat) (0 : Int))
 (∃ (l_4 : List Nd),
 (List.length (Prod.fst (rdA l_1 (i + (1 : Nat)) [] (↑i : Int))) = List.length l_4 ∧ List.flatMap cN (Prod.fst (rdA l_1 (i + (1 : Nat)) [] (↑i : Int))) = List.flatMap cN l_4) ∧
 (PGL l_4 ∧
 WFG l_4 ∧
 List.length l_4 ≤ (1000000 : Nat) ∧
 (0 : Int) ≤ IntKind.wrap IntKind.i64 ((↑(List.length (Prod.fst (rdA l_1 (i + (1 : Nat)) [] (↑i : Int)))) : Int) - (1 : Int)) ∧
 IntKind.wrap IntKind.i64 ((↑(List.length (Prod.fst (rdA l_1 (i + (1 : Nat)) [] (↑i : Int)))) : Int) - (1 : Int)) < (↑(List.length l_4) : Int)) ∧
 brS (prn l_4 (Int.toNat (IntKind.wrap IntKind.i64 ((↑(List.length (Prod.fst (rdA l_1 (i + (1 : Nat)) [] (↑i : Int)))) : Int) - (1 : Int)))) == prn l (4 : Nat))
 (needS
 (decide ((0 : Int) ≤ IntKind.wrap IntKind.i64 ((↑(List.length (Prod.fst (rdA l_1 (i + (1 : Nat)) [] (↑i : Int)))) : Int) - (2 : Int))) &&
 decide
 (IntKind.wrap IntKind.i64 ((↑(List.length (Prod.fst (rdA l_1 (i + (1 : Nat)) [] (↑i : Int)))) : Int) - (2 : Int)) <
 (↑(List.length (Prod.fst (rdA l_1 (i + (1 : Nat)) [] (↑i : Int)))) : Int)))
 (ldVS (1 : Nat) (List.flatMap cN (Prod.fst (rdA l_1 (i + (1 : Nat)) [] (↑i : Int))))
 (Int.toNat (IntKind.wrap IntKind.i64 ((↑(List.length (Prod.fst (rdA l_1 (i + (1 : Nat)) [] (↑i : Int)))) : Int) - (2 : Int))) * (3 : Nat) + (2 : Nat))
 fun (i15 : Option Nat) (e16 l17 : Nat) (c18 : List IV) =>
 brS ((↑l17 : Int) == IntKind.wrap IntKind.i64 (IntKind.wrap IntKind.i64 ((2 : Int) * (↑(Prod.fst (Prod.snd x)) : Int)) + (1 : Int))) (Q (IV.bool true) h)
 (Q (IV.bool false) h)))
 (Q (IV.bool false) h))
 (Q (IV.bool false) h))))) := by kernel_rfl
set_option maxHeartbeats 2000000 in
theorem sLoopL : ∀ xs h Q, kLoopL xs h Q → CallW env 5 xs h Q := by
  intro xs h Q hk
  unfold kLoopL at hk
  split at hk
  · rename_i k0 m0 w
    refine dF_run (okExT) (vLoopL k0 m0 w h Q) ?_
    have tn : ∀ x : Nat, (x : Int).toNat = x := Int.toNat_natCast
    have w1 : IntKind.i64.wrap (1 + k0 % 16) = (((1 + k0 % 16).toNat : Nat) : Int) := by rw [IntWalk.i64_in _ (by omega)]; omega
    rw [w1]
    have hN : 1 ≤ (1 + k0 % 16).toNat ∧ (1 + k0 % 16).toNat ≤ 16 := by omega
    generalize (1 + k0 % 16).toNat = N at hN ⊢
    have hM : 0 ≤ m0 % 16 ∧ m0 % 16 ≤ 15 := by omega
    refine ⟨by omega, by omega, ⟨(1, N, m0 % 16, [0], none, 1, ⟨.nil, 0⟩), rfl, rfl, rfl, rfl, rfl, rfl, rfl, ⟨⟨⟨Nat.le_refl _, hN.1, hN.2⟩, hM⟩, rfl, .inl ⟨rfl, rfl⟩⟩, trivial⟩, ?_⟩
    rintro ⟨j, n, m, ks, io, e, g⟩ _ ⟨⟨⟨t1, t2, t3⟩, t4⟩, hks, hki⟩
    dsimp only at t1 t2 t3 t4 hks hki ⊢
    have hkl : ks.length = j := by rw [hks, List.length_cons, kA_len]; omega
    refine brS_intro (fun c => ?_) (fun c => ?_)
    · rw [decide_eq_true_eq] at c
      have w2 : IntKind.i64.wrap (1 + Int.tmod (j : Int) 2) = 1 + ((j % 2 : Nat) : Int) := by
        rw [Int.tmod_eq_emod_of_nonneg (by omega), IntWalk.i64_in _ (by omega)]; omega
      rw [w2]
      refine app_ints (qs := [1 + ((j % 2 : Nat) : Int)]) hki rfl rfl (by simp; omega) (by simp) fun id h2 hg => ?_
      refine ⟨(j + 1, n, m, ks ++ [1 + ((j % 2 : Nat) : Int)], some id, (ks ++ [1 + ((j % 2 : Nat) : Int)]).length, h2), rfl, rfl, rfl, rfl, (by rw [IntWalk.i64_in _ (by omega)]; rfl), rfl, rfl, ⟨⟨⟨by dsimp only; omega, by dsimp only; omega, t3⟩, t4⟩, ?_, .inr ⟨id, rfl, rfl, hg⟩⟩, by dsimp only; omega⟩
      dsimp only
      rw [hks, show j + 1 - 1 = (j - 1) + 1 by omega, kA_snoc, show 1 + (j - 1) = j by omega]
      rfl
    rw [decide_eq_false_iff_not] at c
    have hjn : j = n := by omega
    subst hjn
    refine app_ints (qs := [2, 0]) hki rfl rfl (by simp; omega) (by simp) fun id h2 hg => ?_
    refine ⟨⟨(1, j, m, ks ++ [2, 0], some id, (ks ++ [2, 0]).length, h2), rfl, rfl, rfl, rfl, rfl, rfl, rfl, ⟨⟨⟨Nat.le_refl _, t1, t3⟩, t4⟩, (by dsimp only; rw [hks]; rfl), .inr ⟨id, rfl, rfl, hg⟩⟩, trivial⟩, ?_⟩
    clear hki hks hkl hg c t1 t2 t3 t4
    rintro ⟨j, n, m, ks, io, e, g⟩ _ ⟨⟨⟨t1, t2, t3⟩, t4⟩, hks, hki⟩
    dsimp only at t1 t2 t3 t4 hks hki ⊢
    have hkl : ks.length = n + j + 1 := by rw [hks]; simp only [List.length_cons, List.length_append, kA_len, kB_len]; omega
    refine brS_intro (fun c => ?_) (fun c => ?_)
    · rw [decide_eq_true_eq] at c
      have w2 : IntKind.i64.wrap (2 - Int.tmod (j : Int) 2) = 2 - ((j % 2 : Nat) : Int) := by
        rw [Int.tmod_eq_emod_of_nonneg (by omega), IntWalk.i64_in _ (by omega)]; omega
      rw [w2]
      refine app_ints (qs := [2 - ((j % 2 : Nat) : Int)]) hki rfl rfl (by simp; omega) (by simp) fun id h2 hg => ?_
      refine ⟨(j + 1, n, m, ks ++ [2 - ((j % 2 : Nat) : Int)], some id, (ks ++ [2 - ((j % 2 : Nat) : Int)]).length, h2), rfl, rfl, rfl, rfl, (by rw [IntWalk.i64_in _ (by omega)]; rfl), rfl, rfl, ⟨⟨⟨by dsimp only; omega, by dsimp only; omega, t3⟩, t4⟩, ?_, .inr ⟨id, rfl, rfl, hg⟩⟩, by dsimp only; omega⟩
      dsimp only
      rw [hks, show j + 1 - 1 = (j - 1) + 1 by omega, kB_snoc, show 1 + (j - 1) = j by omega]
      simp
    rw [decide_eq_false_iff_not] at c
    have hjn : j = n := by omega
    subst hjn
    have hlk : ks = lk j := hks
    subst hlk
    clear hks hki hkl
    have h0 : 0 ≤ w % (j : Int) := Int.emod_nonneg _ (by omega)
    have h1 : w % (j : Int) < j := Int.emod_lt_of_pos _ (by omega)
    generalize w % (j : Int) = v at h0 h1 ⊢
    obtain ⟨L, hL, hLb, gy, hwy, hty, hsy, hsz, hrd, x, hx, hxk⟩ := ylst_all t1 t3 t4 ⟨h0, h1⟩
    have hg := rg_lst t1 t3 t4 ⟨h0, h1⟩
    have hlp := pl_lst t1 t3 t4 ⟨h0, h1⟩
    have hpl : prn (lst j m v) 4 = T10 (lst j m v) 4 := by unfold prn; rw [if_pos hlp]
    have hpy : prn (ylst j m v) (L - 1) = prn (lst j m v) 4 := by rw [hpl, ← hty]; unfold prn; rw [if_pos (by rw [hty]; exact hlp)]
    have hcell : ∀ l : List Nd, PGL l → WFG l → (∀ x ∈ l, x.ks.length ≤ 1000000 ∧ x.op ≠ 30) := fun l hp _ x hx => ⟨(hp.2.1 x hx).2.2.2.1, (hp.2.1 x hx).2.1.2⟩
    have hwl := wfg_lst t1 t3 t4 ⟨h0, h1⟩
    have hll : (lst j m v).length = 5 := rfl
    refine ⟨by omega, lst j m v, ⟨rfl, rfl⟩, ⟨hg.pgl, hwl, by rw [hll]; decide, by decide, by rw [hll]; decide⟩, lst j m v, 4, ?_⟩
    rw [show rdA (lst j m v) (4 + 1) [] ((4 : Nat) : Int) = (ylst j m v, ((L - 1 : Nat) : Int)) from hrd]
    dsimp only
    generalize ylst j m v = y at hL gy hwy hty hsy hsz hrd hx hpy ⊢
    have ewr : IntKind.i64.wrap ((y.length : Int) - 1) = ((L - 1 : Nat) : Int) := by rw [hL, IntWalk.i64_in _ (by omega)]; omega
    have ewr2 : IntKind.i64.wrap ((y.length : Int) - 2) = ((L - 2 : Nat) : Int) := by rw [hL, IntWalk.i64_in _ (by omega)]; omega
    rw [ewr, ewr2]
    simp only [tn]
    have hgy := gy.pgl
    refine ⟨⟨hg, by rw [hll]; decide, hpl, by rw [hpl]; exact hlp, by rw [hll]; decide, hsz⟩, brS_intro (fun c => by rw [beq_iff_eq] at c; omega) (fun _ => ⟨y, ⟨rfl, rfl⟩, ⟨hcell y hgy hwy, by omega, by omega, by omega⟩, lst j m v, ⟨rfl, rfl⟩, ⟨hcell _ hg.pgl hwl, by rw [hll]; decide, by decide, by rw [hll]; decide⟩, brS_intro (fun _ => ⟨y, ⟨rfl, rfl⟩, ⟨hgy, hwy, by omega, by omega, by omega⟩, ?_⟩) (fun c => absurd hsy (by rw [beq_eq_false_iff_ne] at c; exact c))⟩)⟩
    refine brS_intro (fun _ => ?_) (fun c => absurd hpy (by rw [beq_eq_false_iff_ne] at c; exact c))
    have hxl : L - 2 < y.length := by omega
    refine needS_intro (by simp; omega) ?_
    have ex : y[L - 2] = x := by
      have := List.getElem?_eq_getElem hxl
      rw [hx] at this
      exact (Option.some.inj this).symm
    have e2 := cN_at (l := y) (i := L - 2) (j := 2) hxl (by decide)
    refine ldV_at (i := none) (a := 0) (n := y[L - 2].ks.length) (c := y[L - 2].ks.map (IV.int .i64)) (by rw [e2]; rfl) ?_
    refine brS_intro (fun _ => hk) (fun c => ?_)
    rw [beq_eq_false_iff_ne] at c
    refine absurd ?_ c
    rw [ex, hxk, IntWalk.i64_in (2 * (j : Int)) (by omega), IntWalk.i64_in _ (by omega)]
    omega
  · exact hk.elim
def cLoopL := addC 5 kLoopL cExT
theorem okLoopL : Sound env cLoopL := sound_add sLoopL (okExT)

end Go.Proofs.Ythoehkkoaegeoaa
