/-
  Patterns: the statements PatternInstances and PatternSorts.
  Conditions: none.
-/
import Derived.Test.YtmfnadojephcpaaK15
import Derived.Test.YtmfnadojephcpaaY15
import Derived.KernelRfl
set_option linter.unusedVariables false
set_option linter.unusedSimpArgs false
namespace Go.Proofs.Ytmfnadojephcpaa
open Go.Pv Go.M15
theorem ldNo {l : List Nd} {i o : Nat} {K : Int → Prop} (h : i < l.length) (ho : o = i * 3 + 0) (hk : K l[i].op) : ldIS .i64 (l.flatMap cN) o K := by
  subst ho
  have e0 := cN_at (j := 0) h (by omega)
  unfold ldIS
  simp only [e0]
  exact hk
def pi3 (hh : List Int) : Inv' := atX IN (fun x => [(2, .v (.vslice none 0 (hh).length 1 ((hh).map (IV.int .i64)))), (7, .v (.vslice none 0 (x.x).length 3 ((x.x).flatMap cN))), (8, .l 8 0)]) (fun x => [(8, [.int .i64 x.v, .int .i64 x.op, .int .i64 x.im, .int .i64 x.iv, .vslice none 0 x.ks.length 5 (cTs x.ks)])]) (fun x => x.g) (fun x => IB x ∧ x.vars = []) (fun x => 0)
def piInv (hh : List Int) : Inv' := atX IN (fun x => [(2, .v (.vslice none 0 (hh).length 1 ((hh).map (IV.int .i64)))), (7, .v (.vslice none 0 (x.x).length 3 ((x.x).flatMap cN))), (8, .l 8 0), (9, .v (.vslice x.io x.e x.vars.length 1 (x.vars.map (IV.int .i64)))), (10, .v (.int .i64 x.vars.length))]) (fun x => [(8, [.int .i64 x.v, .int .i64 x.op, .int .i64 x.im, .int .i64 x.iv, .vslice none 0 x.ks.length 5 (cTs x.ks)])]) (fun x => x.g) (fun x => IB x ∧ IX x.x x.vars ∧ VH x.vars x.io x.e x.g) (fun x => 6 - x.vars.length)
def pi11  : Inv' := atX IN (fun x => [(7, .v (.vslice none 0 (x.x).length 3 ((x.x).flatMap cN))), (8, .l 8 0), (9, .v (.vslice x.io x.e x.vars.length 1 (x.vars.map (IV.int .i64))))]) (fun x => [(8, [.int .i64 x.v, .int .i64 x.op, .int .i64 x.im, .int .i64 x.iv, .vslice none 0 x.ks.length 5 (cTs x.ks)])]) (fun x => x.g) (fun x => IC x) (fun x => 0)
def pi12  : Inv' := atX IN (fun x => [(7, .v (.vslice none 0 (x.x).length 3 ((x.x).flatMap cN))), (8, .l 8 0), (9, .v (.vslice x.io x.e x.vars.length 1 (x.vars.map (IV.int .i64)))), (12, .v (.vslice none 0 (x.y).length 3 ((x.y).flatMap cN))), (13, .v (.int .i64 x.j))]) (fun x => [(8, [.int .i64 x.v, .int .i64 x.op, .int .i64 x.im, .int .i64 x.iv, .vslice none 0 x.ks.length 5 (cTs x.ks)])]) (fun x => x.g) (fun x => IC x) (fun x => 0)
def pi15  : Inv' := atX IN (fun x => [(7, .v (.vslice none 0 (x.x).length 3 ((x.x).flatMap cN))), (8, .l 8 0), (9, .v (.vslice x.io x.e x.vars.length 1 (x.vars.map (IV.int .i64)))), (12, .v (.vslice none 0 (x.y).length 3 ((x.y).flatMap cN))), (13, .v (.int .i64 x.j)), (14, .v (.vslice none 0 (x.y).length 3 ((x.y).flatMap cN))), (15, .v (.int .i64 x.j))]) (fun x => [(8, [.int .i64 x.v, .int .i64 x.op, .int .i64 x.im, .int .i64 x.iv, .vslice none 0 x.ks.length 5 (cTs x.ks)])]) (fun x => x.g) (fun x => IC x ∧ valB x.t 6 6 = true) (fun x => 0)
def pi19  : Inv' := atX IN (fun x => [(7, .v (.vslice none 0 (x.x).length 3 ((x.x).flatMap cN))), (8, .l 8 0), (9, .v (.vslice x.io x.e x.vars.length 1 (x.vars.map (IV.int .i64)))), (12, .v (.vslice none 0 (x.y).length 3 ((x.y).flatMap cN))), (13, .v (.int .i64 x.j))]) (fun x => [(8, [.int .i64 x.v, .int .i64 x.op, .int .i64 x.im, .int .i64 x.iv, .vslice none 0 x.ks.length 5 (cTs x.ks)])]) (fun x => x.g) (fun x => IC x ∧ valB x.t 6 6 = true ∧ ¬ 0 < x.v) (fun x => 0)
def pkInv  : Inv' := atX (IN × Nat) (fun x => [(7, .v (.vslice none 0 (x.1.x).length 3 ((x.1.x).flatMap cN))), (8, .l 8 0), (9, .v (.vslice x.1.io x.1.e x.1.vars.length 1 (x.1.vars.map (IV.int .i64)))), (12, .v (.vslice none 0 (x.1.y).length 3 ((x.1.y).flatMap cN))), (13, .v (.int .i64 x.1.j)), (160, .v (.int .i64 x.1.ks.length)), (161, .v (.int .i64 x.2))]) (fun x => [(8, [.int .i64 x.1.v, .int .i64 x.1.op, .int .i64 x.1.im, .int .i64 x.1.iv, .vslice none 0 x.1.ks.length 5 (cTs x.1.ks)])]) (fun x => x.1.g) (fun x => IC x.1 ∧ valB x.1.t 6 6 = true ∧ ¬ 0 < x.1.v ∧ x.2 ≤ x.1.ks.length) (fun x => x.1.ks.length - x.2)
def kInstL (xs : List IV) (h : Heap) (K : IV → Heap → Prop) : Prop := match xs with
  | [.vslice none e1 n1 1 c1, .vslice none e2 n2 1 c2, .vslice none e3 n3 1 c3] => ∃ l m hh : List Int, (n1 = l.length ∧ c1 = l.map (IV.int .i64)) ∧ (n2 = m.length ∧ c2 = m.map (IV.int .i64)) ∧ (n3 = hh.length ∧ c3 = hh.map (IV.int .i64)) ∧ ((∀ x ∈ l, i64b x) ∧ (∀ x ∈ m, i64b x) ∧ (∀ x ∈ hh, i64b x) ∧ l.length ≤ 17592186043904 ∧ m.length ≤ 9223372036854775807 ∧ hh.length ≤ 9223372036854775807) ∧ K (.bool true) h
  | _ => False
set_option maxRecDepth 100000 in
theorem vInstL (l m hh : List Int) (e1 e2 e3 : Nat) (h : Heap) (Q : IV → Heap → Prop) : dF (stdS cPat0) env 7 noU (icA 6 (piInv hh) (ic1 23 pkInv)) (icS (icA 4 (pi3 hh) (icA 12 pi11 (icA 13 pi12 (icA 16 pi15 (ic1 20 pi19)))))) [.vslice none e1 (l).length 1 ((l).map (IV.int .i64)), .vslice none e2 (m).length 1 ((m).map (IV.int .i64)), .vslice none e3 (hh).length 1 ((hh).map (IV.int .i64))] h Q = (
  needS
 (pureL
 [IV.vslice none (0 : Nat) (List.length l) (1 : Nat) (List.map (IV.int IntKind.i64) l), IV.vslice none (0 : Nat) (List.length m) (1 : Nat) (List.map (IV.int IntKind.i64) m),
 IV.vslice none (0 : Nat) (List.length hh) (1 : Nat) (List.map (IV.int IntKind.i64) hh)])
 ((∃ (l_1 : List Int),
 (List.length m = List.length l_1 ∧ List.map (IV.int IntKind.i64) m = List.map (IV.int IntKind.i64) l_1) ∧
 ((∀ (x : Int), x ∈ l_1 → i64b x) ∧ List.length l_1 ≤ (9223372036854775807 : Nat)) ∧
 ∀ (x : List Nd),
 NW (14 : Nat) x →
 brS (Nat.beq (List.length l) (0 : Nat))
 (∃ (l : List Int),
 ((1 : Nat) = List.length l ∧ [IV.int IntKind.i64 (0 : Int)] = List.map (IV.int IntKind.i64) l) ∧
 (List.head? l = some (0 : Int) ∧ (∀ (x : Int), x ∈ l → i64b x) ∧ List.length l ≤ (9223372036854775807 : Nat)) ∧
 ∀ (v op im iv : Int) (ks : List T),
 T.ok (T.mk v op im iv ks) →
 T.num (T.mk v op im iv ks) ≤ (40 : Nat) →
 T.vo (T.mk v op im iv ks) →
 ∃ (x_1 : IN),
 some (TV.v (IV.vslice none (0 : Nat) (List.length hh) (1 : Nat) (List.map (IV.int IntKind.i64) hh))) = some (TV.v (IV.vslice none (0 : Nat) (List.length hh) (1 : Nat) (List.map (IV.int IntKind.i64) hh))) ∧
 some (TV.v (IV.vslice none (0 : Nat) (List.length x) (3 : Nat) (List.flatMap cN x))) = some (TV.v (IV.vslice none (0 : Nat) (List.length (IN.x x_1)) (3 : Nat) (List.flatMap cN (IN.x x_1)))) ∧
 some (TV.l (8 : Nat) (0 : Nat)) = some (TV.l (8 : Nat) (0 : Nat)) ∧
 some [IV.int IntKind.i64 v, IV.int IntKind.i64 op, IV.int IntKind.i64 im, IV.int IntKind.i64 iv, IV.vslice none (0 : Nat) (List.length ks) (5 : Nat) (cTs ks)] =
 some
 [IV.int IntKind.i64 (IN.v x_1), IV.int IntKind.i64 (IN.op x_1), IV.int IntKind.i64 (IN.im x_1), IV.int IntKind.i64 (IN.iv x_1),
 IV.vslice none (0 : Nat) (List.length (IN.ks x_1)) (5 : Nat) (cTs (IN.ks x_1))] ∧
 Heap.mk PT.nil (0 : Nat) = IN.g x_1 ∧ (IB x_1 ∧ IN.vars x_1 = []) ∧ True)
 (needS (Nat.ble (((1 : Nat) + List.length l) * (8 : Nat)) (140737488355328 : Nat))
 (∃ (l_2 : List Int),
 ((1 : Nat) + List.length l = List.length l_2 ∧ IV.int IntKind.i64 (0 : Int) :: List.map (IV.int IntKind.i64) l = List.map (IV.int IntKind.i64) l_2) ∧
 (List.head? l_2 = some (0 : Int) ∧ (∀ (x : Int), x ∈ l_2 → i64b x) ∧ List.length l_2 ≤ (9223372036854775807 : Nat)) ∧
 ∀ (v op im iv : Int) (ks : List T),
 T.ok (T.mk v op im iv ks) →
 T.num (T.mk v op im iv ks) ≤ (40 : Nat) →
 T.vo (T.mk v op im iv ks) →
 ∃ (x_1 : IN),
 some (TV.v (IV.vslice none (0 : Nat) (List.length hh) (1 : Nat) (List.map (IV.int IntKind.i64) hh))) = some (TV.v (IV.vslice none (0 : Nat) (List.length hh) (1 : Nat) (List.map (IV.int IntKind.i64) hh))) ∧
 some (TV.v (IV.vslice none (0 : Nat) (List.length x) (3 : Nat) (List.flatMap cN x))) = some (TV.v (IV.vslice none (0 : Nat) (List.length (IN.x x_1)) (3 : Nat) (List.flatMap cN (IN.x x_1)))) ∧
 some (TV.l (8 : Nat) (0 : Nat)) = some (TV.l (8 : Nat) (0 : Nat)) ∧
 some [IV.int IntKind.i64 v, IV.int IntKind.i64 op, IV.int IntKind.i64 im, IV.int IntKind.i64 iv, IV.vslice none (0 : Nat) (List.length ks) (5 : Nat) (cTs ks)] =
 some
 [IV.int IntKind.i64 (IN.v x_1), IV.int IntKind.i64 (IN.op x_1), IV.int IntKind.i64 (IN.im x_1), IV.int IntKind.i64 (IN.iv x_1),
 IV.vslice none (0 : Nat) (List.length (IN.ks x_1)) (5 : Nat) (cTs (IN.ks x_1))] ∧
 Heap.mk (PT.node PT.nil (some (IObj.tip (((1 : Nat) + List.length l) * (1 : Nat)))) PT.nil) ((0 : Nat) + (1 : Nat)) = IN.g x_1 ∧ (IB x_1 ∧ IN.vars x_1 = []) ∧ True))) ∧
 (∀ (x : IN) (b : FF),
 IB x ∧ IN.vars x = [] →
 (∃ (x_1 : IN),
 some (TV.v (IV.vslice none (0 : Nat) (List.length hh) (1 : Nat) (List.map (IV.int IntKind.i64) hh))) = some (TV.v (IV.vslice none (0 : Nat) (List.length hh) (1 : Nat) (List.map (IV.int IntKind.i64) hh))) ∧
 some (TV.v (IV.vslice none (0 : Nat) (List.length (IN.x x)) (3 : Nat) (List.flatMap cN (IN.x x)))) = some (TV.v (IV.vslice none (0 : Nat) (List.length (IN.x x_1)) (3 : Nat) (List.flatMap cN (IN.x x_1)))) ∧
 some (TV.l (8 : Nat) (0 : Nat)) = some (TV.l (8 : Nat) (0 : Nat)) ∧
 some (TV.v (IV.vslice none (1 : Nat) (0 : Nat) (1 : Nat) [])) = some (TV.v (IV.vslice (IN.io x_1) (IN.e x_1) (List.length (IN.vars x_1)) (1 : Nat) (List.map (IV.int IntKind.i64) (IN.vars x_1)))) ∧
 some (TV.v (IV.int IntKind.i64 (0 : Int))) = some (TV.v (IV.int IntKind.i64 (↑(List.length (IN.vars x_1)) : Int))) ∧
 some [IV.int IntKind.i64 (IN.v x), IV.int IntKind.i64 (IN.op x), IV.int IntKind.i64 (IN.im x), IV.int IntKind.i64 (IN.iv x), IV.vslice none (0 : Nat) (List.length (IN.ks x)) (5 : Nat) (cTs (IN.ks x))] =
 some
 [IV.int IntKind.i64 (IN.v x_1), IV.int IntKind.i64 (IN.op x_1), IV.int IntKind.i64 (IN.im x_1), IV.int IntKind.i64 (IN.iv x_1), IV.vslice none (0 : Nat) (List.length (IN.ks x_1)) (5 : Nat) (cTs (IN.ks x_1))] ∧
 IN.g x = IN.g x_1 ∧ (IB x_1 ∧ IX (IN.x x_1) (IN.vars x_1) ∧ VH (IN.vars x_1) (IN.io x_1) (IN.e x_1) (IN.g x_1)) ∧ True) ∧
 ∀ (x : IN) (b : FF),
 IB x ∧ IX (IN.x x) (IN.vars x) ∧ VH (IN.vars x) (IN.io x) (IN.e x) (IN.g x) →
 brS (decide ((↑(List.length (IN.vars x)) : Int) < (6 : Int)))
 (brS (decide ((↑(List.length (IN.vars x)) : Int) < (↑(List.length hh) : Int)))
 (needS (decide ((0 : Int) ≤ (↑(List.length (IN.vars x)) : Int)) && decide ((↑(List.length (IN.vars x)) : Int) < (↑(List.length hh) : Int)))
 (ldIS IntKind.i64 (List.map (IV.int IntKind.i64) hh) (Int.toNat (↑(List.length (IN.vars x)) : Int) * (1 : Nat)) fun (n0 : Int) =>
 ((0 : Int) < (3 : Int) ∧ (3 : Int) < (4611686018427387904 : Int)) ∧
 needS (decide ((0 : Int) ≤ n0 % (3 : Int)) && decide (n0 % (3 : Int) < (3 : Int)))
 (ldIS IntKind.i64 [IV.int IntKind.i64 (0 : Int), IV.int IntKind.i64 (1 : Int), IV.int IntKind.i64 (IntKind.wrap IntKind.i64 ((↑(List.length (IN.x x)) : Int) - (1 : Int)))] (Int.toNat (n0 % (3 : Int)) * (1 : Nat))
 fun (n1 : Int) =>
 appGS (IN.g x) (1 : Nat) (8 : Nat) (IV.vslice (IN.io x) (IN.e x) (List.length (IN.vars x)) (1 : Nat) (List.map (IV.int IntKind.i64) (IN.vars x))) (1 : Nat) [IV.int IntKind.i64 n1]
 fun (i2 e3 l4 : Nat) (c5 : List IV) (g6 : Heap) =>
 ∃ (x_1 : IN),
 some (TV.v (IV.vslice none (0 : Nat) (List.length hh) (1 : Nat) (List.map (IV.int IntKind.i64) hh))) = some (TV.v (IV.vslice none (0 : Nat) (List.length hh) (1 : Nat) (List.map (IV.int IntKind.i64) hh))) ∧
 some (TV.v (IV.vslice none (0 : Nat) (List.length (IN.x x)) (3 : Nat) (List.flatMap cN (IN.x x)))) =
 some (TV.v (IV.vslice none (0 : Nat) (List.length (IN.x x_1)) (3 : Nat) (List.flatMap cN (IN.x x_1)))) ∧
 some (TV.l (8 : Nat) (0 : Nat)) = some (TV.l (8 : Nat) (0 : Nat)) ∧
 some (TV.v (IV.vslice (some i2) e3 l4 (1 : Nat) c5)) = some (TV.v (IV.vslice (IN.io x_1) (IN.e x_1) (List.length (IN.vars x_1)) (1 : Nat) (List.map (IV.int IntKind.i64) (IN.vars x_1)))) ∧
 some (TV.v (IV.int IntKind.i64 (IntKind.wrap IntKind.i64 ((↑(List.length (IN.vars x)) : Int) + (1 : Int))))) = some (TV.v (IV.int IntKind.i64 (↑(List.length (IN.vars x_1)) : Int))) ∧
 some
 [IV.int IntKind.i64 (IN.v x), IV.int IntKind.i64 (IN.op x), IV.int IntKind.i64 (IN.im x), IV.int IntKind.i64 (IN.iv x),
 IV.vslice none (0 : Nat) (List.length (IN.ks x)) (5 : Nat) (cTs (IN.ks x))] =
 some
 [IV.int IntKind.i64 (IN.v x_1), IV.int IntKind.i64 (IN.op x_1), IV.int IntKind.i64 (IN.im x_1), IV.int IntKind.i64 (IN.iv x_1),
 IV.vslice none (0 : Nat) (List.length (IN.ks x_1)) (5 : Nat) (cTs (IN.ks x_1))] ∧
 g6 = IN.g x_1 ∧ (IB x_1 ∧ IX (IN.x x_1) (IN.vars x_1) ∧ VH (IN.vars x_1) (IN.io x_1) (IN.e x_1) (IN.g x_1)) ∧ (6 : Nat) - List.length (IN.vars x_1) < (6 : Nat) - List.length (IN.vars x))))
 (((0 : Int) < (3 : Int) ∧ (3 : Int) < (4611686018427387904 : Int)) ∧
 needS (decide ((0 : Int) ≤ (↑(List.length (IN.vars x)) : Int) % (3 : Int)) && decide ((↑(List.length (IN.vars x)) : Int) % (3 : Int) < (3 : Int)))
 (ldIS IntKind.i64 [IV.int IntKind.i64 (0 : Int), IV.int IntKind.i64 (1 : Int), IV.int IntKind.i64 (IntKind.wrap IntKind.i64 ((↑(List.length (IN.x x)) : Int) - (1 : Int)))]
 (Int.toNat ((↑(List.length (IN.vars x)) : Int) % (3 : Int)) * (1 : Nat)) fun (n7 : Int) =>
 appGS (IN.g x) (1 : Nat) (8 : Nat) (IV.vslice (IN.io x) (IN.e x) (List.length (IN.vars x)) (1 : Nat) (List.map (IV.int IntKind.i64) (IN.vars x))) (1 : Nat) [IV.int IntKind.i64 n7]
 fun (i8 e9 l10 : Nat) (c11 : List IV) (g12 : Heap) =>
 ∃ (x_1 : IN),
 some (TV.v (IV.vslice none (0 : Nat) (List.length hh) (1 : Nat) (List.map (IV.int IntKind.i64) hh))) = some (TV.v (IV.vslice none (0 : Nat) (List.length hh) (1 : Nat) (List.map (IV.int IntKind.i64) hh))) ∧
 some (TV.v (IV.vslice none (0 : Nat) (List.length (IN.x x)) (3 : Nat) (List.flatMap cN (IN.x x)))) = some (TV.v (IV.vslice none (0 : Nat) (List.length (IN.x x_1)) (3 : Nat) (List.flatMap cN (IN.x x_1)))) ∧
 some (TV.l (8 : Nat) (0 : Nat)) = some (TV.l (8 : Nat) (0 : Nat)) ∧
 some (TV.v (IV.vslice (some i8) e9 l10 (1 : Nat) c11)) = some (TV.v (IV.vslice (IN.io x_1) (IN.e x_1) (List.length (IN.vars x_1)) (1 : Nat) (List.map (IV.int IntKind.i64) (IN.vars x_1)))) ∧
 some (TV.v (IV.int IntKind.i64 (IntKind.wrap IntKind.i64 ((↑(List.length (IN.vars x)) : Int) + (1 : Int))))) = some (TV.v (IV.int IntKind.i64 (↑(List.length (IN.vars x_1)) : Int))) ∧
 some
 [IV.int IntKind.i64 (IN.v x), IV.int IntKind.i64 (IN.op x), IV.int IntKind.i64 (IN.im x), IV.int IntKind.i64 (IN.iv x),
 IV.vslice none (0 : Nat) (List.length (IN.ks x)) (5 : Nat) (cTs (IN.ks x))] =
 some
 [IV.int IntKind.i64 (IN.v x_1), IV.int IntKind.i64 (IN.op x_1), IV.int IntKind.i64 (IN.im x_1), IV.int IntKind.i64 (IN.iv x_1),
 IV.vslice none (0 : Nat) (List.length (IN.ks x_1)) (5 : Nat) (cTs (IN.ks x_1))] ∧
 g12 = IN.g x_1 ∧ (IB x_1 ∧ IX (IN.x x_1) (IN.vars x_1) ∧ VH (IN.vars x_1) (IN.io x_1) (IN.e x_1) (IN.g x_1)) ∧ (6 : Nat) - List.length (IN.vars x_1) < (6 : Nat) - List.length (IN.vars x))))
 (∃ (x_1 : IN),
 some (TV.v (IV.vslice none (0 : Nat) (List.length (IN.x x)) (3 : Nat) (List.flatMap cN (IN.x x)))) = some (TV.v (IV.vslice none (0 : Nat) (List.length (IN.x x_1)) (3 : Nat) (List.flatMap cN (IN.x x_1)))) ∧
 some (TV.l (8 : Nat) (0 : Nat)) = some (TV.l (8 : Nat) (0 : Nat)) ∧
 some (TV.v (IV.vslice (IN.io x) (IN.e x) (List.length (IN.vars x)) (1 : Nat) (List.map (IV.int IntKind.i64) (IN.vars x)))) =
 some (TV.v (IV.vslice (IN.io x_1) (IN.e x_1) (List.length (IN.vars x_1)) (1 : Nat) (List.map (IV.int IntKind.i64) (IN.vars x_1)))) ∧
 some [IV.int IntKind.i64 (IN.v x), IV.int IntKind.i64 (IN.op x), IV.int IntKind.i64 (IN.im x), IV.int IntKind.i64 (IN.iv x), IV.vslice none (0 : Nat) (List.length (IN.ks x)) (5 : Nat) (cTs (IN.ks x))] =
 some
 [IV.int IntKind.i64 (IN.v x_1), IV.int IntKind.i64 (IN.op x_1), IV.int IntKind.i64 (IN.im x_1), IV.int IntKind.i64 (IN.iv x_1),
 IV.vslice none (0 : Nat) (List.length (IN.ks x_1)) (5 : Nat) (cTs (IN.ks x_1))] ∧
 IN.g x = IN.g x_1 ∧ (IB x_1 ∧ IX (IN.x x_1) (IN.vars x_1) ∧ List.length (IN.vars x_1) = (6 : Nat)) ∧ True)) ∧
 (∀ (x : IN) (b : FF),
 IC x →
 ∃ (l : List Nd),
 ∃ (ks : List T),
 ∃ (vars : List Int),
 ∃ (imms : List Int),
 (List.length (IN.x x) = List.length l ∧ List.flatMap cN (IN.x x) = List.flatMap cN l) ∧
 (List.length (IN.ks x) = List.length ks ∧ cTs (IN.ks x) = cTs ks) ∧
 (List.length (IN.vars x) = List.length vars ∧ List.map (IV.int IntKind.i64) (IN.vars x) = List.map (IV.int IntKind.i64) vars) ∧
 ((6 : Nat) = List.length imms ∧
 [IV.int IntKind.i64 (0 : Int), IV.int IntKind.i64 (0 : Int), IV.int IntKind.i64 (0 : Int), IV.int IntKind.i64 (0 : Int), IV.int IntKind.i64 (0 : Int), IV.int IntKind.i64 (0 : Int)] =
 List.map (IV.int IntKind.i64) imms) ∧
 ((l ≠ [] ∧ (∀ (x : Nd), x ∈ l → okN x) ∧ List.length l ≤ (1000000 : Nat) ∧ ∀ (x : Nd), x ∈ l → List.length (Nd.ks x) ≤ (1000000 : Nat)) ∧
 (T.ok (T.mk (IN.v x) (IN.op x) (IN.im x) (IN.iv x) ks) ∧ T.num (T.mk (IN.v x) (IN.op x) (IN.im x) (IN.iv x) ks) ≤ (1000000 : Nat)) ∧
 ((∀ (x : Int), x ∈ vars → i64b x) ∧ List.length vars ≤ (1000 : Nat)) ∧ (∀ (x : Int), x ∈ imms → i64b x) ∧ List.length imms ≤ (1000 : Nat)) ∧
 ∃ (x_1 : IN),
 some (TV.v (IV.vslice none (0 : Nat) (List.length (IN.x x)) (3 : Nat) (List.flatMap cN (IN.x x)))) = some (TV.v (IV.vslice none (0 : Nat) (List.length (IN.x x_1)) (3 : Nat) (List.flatMap cN (IN.x x_1)))) ∧
 some (TV.l (8 : Nat) (0 : Nat)) = some (TV.l (8 : Nat) (0 : Nat)) ∧
 some (TV.v (IV.vslice (IN.io x) (IN.e x) (List.length (IN.vars x)) (1 : Nat) (List.map (IV.int IntKind.i64) (IN.vars x)))) =
 some (TV.v (IV.vslice (IN.io x_1) (IN.e x_1) (List.length (IN.vars x_1)) (1 : Nat) (List.map (IV.int IntKind.i64) (IN.vars x_1)))) ∧
 some
 (TV.v
 (IV.vslice none (0 : Nat) (List.length (Prod.fst (instB l (T.mk (IN.v x) (IN.op x) (IN.im x) (IN.iv x) ks) vars imms))) (3 : Nat)
 (List.flatMap cN (Prod.fst (instB l (T.mk (IN.v x) (IN.op x) (IN.im x) (IN.iv x) ks) vars imms))))) =
 some (TV.v (IV.vslice none (0 : Nat) (List.length (IN.y x_1)) (3 : Nat) (List.flatMap cN (IN.y x_1)))) ∧
 some (TV.v (IV.int IntKind.i64 (Prod.snd (instB l (T.mk (IN.v x) (IN.op x) (IN.im x) (IN.iv x) ks) vars imms)))) = some (TV.v (IV.int IntKind.i64 (IN.j x_1))) ∧
 some
 [IV.int IntKind.i64 (IN.v x), IV.int IntKind.i64 (IN.op x), IV.int IntKind.i64 (IN.im x), IV.int IntKind.i64 (IN.iv x),
 IV.vslice none (0 : Nat) (List.length (IN.ks x)) (5 : Nat) (cTs (IN.ks x))] =
 some
 [IV.int IntKind.i64 (IN.v x_1), IV.int IntKind.i64 (IN.op x_1), IV.int IntKind.i64 (IN.im x_1), IV.int IntKind.i64 (IN.iv x_1),
 IV.vslice none (0 : Nat) (List.length (IN.ks x_1)) (5 : Nat) (cTs (IN.ks x_1))] ∧
 Heap.push (IN.g x) (IObj.tip (6 : Nat)) = IN.g x_1 ∧ (IB x_1 ∧ IX (IN.x x_1) (IN.vars x_1) ∧ List.length (IN.vars x_1) = (6 : Nat)) ∧ True) ∧
 (∀ (x : IN) (b : FF),
 IC x →
 ∃ (ks : List T),
 (List.length (IN.ks x) = List.length ks ∧ cTs (IN.ks x) = cTs ks) ∧
 (thins ks ∧ List.length ks ≤ (1000000000000000 : Nat)) ∧
 brS (!valB (T.mk (IN.v x) (IN.op x) (IN.im x) (IN.iv x) ks) (6 : Int) (6 : Int))
 (brS (IN.j x == (-1 : Int))
 (∃ (l : List Nd),
 ∃ (m : List Nd),
 (List.length (IN.x x) = List.length l ∧ List.flatMap cN (IN.x x) = List.flatMap cN l) ∧
 (List.length (IN.y x) = List.length m ∧ List.flatMap cN (IN.y x) = List.flatMap cN m) ∧
 ((∀ (x : Nd), x ∈ l → List.length (Nd.ks x) ≤ (1000000000 : Nat)) ∧ List.length l ≤ (1000000000 : Nat)) ∧ brS (decide (l = m)) (Q (IV.bool true) h) (Q (IV.bool false) h))
 (Q (IV.bool false) h))
 (∃ (l : List Nd),
 ∃ (ks : List T),
 ∃ (vars : List Int),
 ∃ (imms : List Int),
 (List.length (IN.y x) = List.length l ∧ List.flatMap cN (IN.y x) = List.flatMap cN l) ∧
 (List.length (IN.ks x) = List.length ks ∧ cTs (IN.ks x) = cTs ks) ∧
 (List.length (IN.vars x) = List.length vars ∧ List.map (IV.int IntKind.i64) (IN.vars x) = List.map (IV.int IntKind.i64) vars) ∧
 ((6 : Nat) = List.length imms ∧
 [IV.int IntKind.i64 (0 : Int), IV.int IntKind.i64 (0 : Int), IV.int IntKind.i64 (0 : Int), IV.int IntKind.i64 (0 : Int), IV.int IntKind.i64 (0 : Int), IV.int IntKind.i64 (0 : Int)] =
 List.map (IV.int IntKind.i64) imms) ∧
 ((l ≠ [] ∧ (∀ (x : Nd), x ∈ l → okN x) ∧ List.length l ≤ (1000000 : Nat) ∧ ∀ (x : Nd), x ∈ l → List.length (Nd.ks x) ≤ (1000000 : Nat)) ∧
 (T.ok (T.mk (IN.v x) (IN.op x) (IN.im x) (IN.iv x) ks) ∧ T.num (T.mk (IN.v x) (IN.op x) (IN.im x) (IN.iv x) ks) ≤ (1000000 : Nat)) ∧
 ((∀ (x : Int), x ∈ vars → i64b x) ∧ List.length vars ≤ (1000 : Nat)) ∧ (∀ (x : Int), x ∈ imms → i64b x) ∧ List.length imms ≤ (1000 : Nat)) ∧
 ∃ (x_1 : IN),
 some (TV.v (IV.vslice none (0 : Nat) (List.length (IN.x x)) (3 : Nat) (List.flatMap cN (IN.x x)))) =
 some (TV.v (IV.vslice none (0 : Nat) (List.length (IN.x x_1)) (3 : Nat) (List.flatMap cN (IN.x x_1)))) ∧
 some (TV.l (8 : Nat) (0 : Nat)) = some (TV.l (8 : Nat) (0 : Nat)) ∧
 some (TV.v (IV.vslice (IN.io x) (IN.e x) (List.length (IN.vars x)) (1 : Nat) (List.map (IV.int IntKind.i64) (IN.vars x)))) =
 some (TV.v (IV.vslice (IN.io x_1) (IN.e x_1) (List.length (IN.vars x_1)) (1 : Nat) (List.map (IV.int IntKind.i64) (IN.vars x_1)))) ∧
 some (TV.v (IV.vslice none (0 : Nat) (List.length (IN.y x)) (3 : Nat) (List.flatMap cN (IN.y x)))) =
 some (TV.v (IV.vslice none (0 : Nat) (List.length (IN.y x_1)) (3 : Nat) (List.flatMap cN (IN.y x_1)))) ∧
 some (TV.v (IV.int IntKind.i64 (IN.j x))) = some (TV.v (IV.int IntKind.i64 (IN.j x_1))) ∧
 some
 (TV.v
 (IV.vslice none (0 : Nat) (List.length (Prod.fst (instB l (T.mk (IN.v x) (IN.op x) (IN.im x) (IN.iv x) ks) vars imms))) (3 : Nat)
 (List.flatMap cN (Prod.fst (instB l (T.mk (IN.v x) (IN.op x) (IN.im x) (IN.iv x) ks) vars imms))))) =
 some (TV.v (IV.vslice none (0 : Nat) (List.length (IN.y x_1)) (3 : Nat) (List.flatMap cN (IN.y x_1)))) ∧
 some (TV.v (IV.int IntKind.i64 (Prod.snd (instB l (T.mk (IN.v x) (IN.op x) (IN.im x) (IN.iv x) ks) vars imms)))) = some (TV.v (IV.int IntKind.i64 (IN.j x_1))) ∧
 some
 [IV.int IntKind.i64 (IN.v x), IV.int IntKind.i64 (IN.op x), IV.int IntKind.i64 (IN.im x), IV.int IntKind.i64 (IN.iv x),
 IV.vslice none (0 : Nat) (List.length (IN.ks x)) (5 : Nat) (cTs (IN.ks x))] =
 some
 [IV.int IntKind.i64 (IN.v x_1), IV.int IntKind.i64 (IN.op x_1), IV.int IntKind.i64 (IN.im x_1), IV.int IntKind.i64 (IN.iv x_1),
 IV.vslice none (0 : Nat) (List.length (IN.ks x_1)) (5 : Nat) (cTs (IN.ks x_1))] ∧
 Heap.push (IN.g x) (IObj.tip (6 : Nat)) = IN.g x_1 ∧ (IC x_1 ∧ valB (IN.t x_1) (6 : Int) (6 : Int) = true) ∧ True)) ∧
 (∀ (x : IN) (b : FF),
 IC x ∧ valB (IN.t x) (6 : Int) (6 : Int) = true →
 brS (IN.j x != IN.j x) (Q (IV.bool false) h)
 (∃ (l : List Nd),
 ∃ (m : List Nd),
 (List.length (IN.y x) = List.length l ∧ List.flatMap cN (IN.y x) = List.flatMap cN l) ∧
 (List.length (IN.y x) = List.length m ∧ List.flatMap cN (IN.y x) = List.flatMap cN m) ∧
 ((∀ (x : Nd), x ∈ l → List.length (Nd.ks x) ≤ (1000000000 : Nat)) ∧ List.length l ≤ (1000000000 : Nat)) ∧
 brS (!decide (l = m)) (Q (IV.bool false) h)
 (brS (decide ((↑(List.length (IN.y x)) : Int) < (↑(List.length (IN.x x)) : Int))) (Q (IV.bool false) h)
 (needS (true && (decide ((0 : Int) ≤ (↑(List.length (IN.x x)) : Int)) && decide ((↑(List.length (IN.x x)) : Int) ≤ (↑(List.length (IN.y x)) : Int))))
 (∃ (l : List Nd),
 ∃ (m : List Nd),
 (Int.toNat (↑(List.length (IN.x x)) : Int) - (0 : Nat) = List.length l ∧
 List.take ((Int.toNat (↑(List.length (IN.x x)) : Int) - (0 : Nat)) * (3 : Nat)) (List.drop (0 : Nat) (List.flatMap cN (IN.y x))) = List.flatMap cN l) ∧
 (List.length (IN.x x) = List.length m ∧ List.flatMap cN (IN.x x) = List.flatMap cN m) ∧
 ((∀ (x : Nd), x ∈ l → List.length (Nd.ks x) ≤ (1000000000 : Nat)) ∧ List.length l ≤ (1000000000 : Nat)) ∧
 brS (!decide (l = m)) (Q (IV.bool false) h)
 (brS (decide (IN.j x < (0 : Int))) (Q (IV.bool false) h)
 (brS (decide (IN.j x ≥ (↑(List.length (IN.y x)) : Int))) (Q (IV.bool false) h)
 (∃ (d : Nat),
 ∃ (ks : List T),
 (List.length (IN.ks x) = List.length ks ∧ cTs (IN.ks x) = cTs ks) ∧
 (nums ks < d ∧ thins ks ∧ List.length ks ≤ (1000000000000000 : Nat)) ∧
 brS (decide ((↑(List.length (IN.y x)) : Int) > IntKind.wrap IntKind.i64 ((↑(List.length (IN.x x)) : Int) + sizes (1 : Int) ks))) (Q (IV.bool false) h)
 (brS (decide (IN.v x > (0 : Int)))
 (needS (decide ((0 : Int) ≤ IntKind.wrap IntKind.i64 (IN.v x - (1 : Int))) && decide (IntKind.wrap IntKind.i64 (IN.v x - (1 : Int)) < (↑(List.length (IN.vars x)) : Int)))
 (ldIS IntKind.i64 (List.map (IV.int IntKind.i64) (IN.vars x)) (Int.toNat (IntKind.wrap IntKind.i64 (IN.v x - (1 : Int))) * (1 : Nat)) fun (n13 : Int) =>
 brS (IN.j x == n13) (Q (IV.bool true) h) (Q (IV.bool false) h)))
 (∃ (x_1 : IN),
 some (TV.v (IV.vslice none (0 : Nat) (List.length (IN.x x)) (3 : Nat) (List.flatMap cN (IN.x x)))) =
 some (TV.v (IV.vslice none (0 : Nat) (List.length (IN.x x_1)) (3 : Nat) (List.flatMap cN (IN.x x_1)))) ∧
 some (TV.l (8 : Nat) (0 : Nat)) = some (TV.l (8 : Nat) (0 : Nat)) ∧
 some (TV.v (IV.vslice (IN.io x) (IN.e x) (List.length (IN.vars x)) (1 : Nat) (List.map (IV.int IntKind.i64) (IN.vars x)))) =
 some (TV.v (IV.vslice (IN.io x_1) (IN.e x_1) (List.length (IN.vars x_1)) (1 : Nat) (List.map (IV.int IntKind.i64) (IN.vars x_1)))) ∧
 some (TV.v (IV.vslice none (0 : Nat) (List.length (IN.y x)) (3 : Nat) (List.flatMap cN (IN.y x)))) =
 some (TV.v (IV.vslice none (0 : Nat) (List.length (IN.y x_1)) (3 : Nat) (List.flatMap cN (IN.y x_1)))) ∧
 some (TV.v (IV.int IntKind.i64 (IN.j x))) = some (TV.v (IV.int IntKind.i64 (IN.j x_1))) ∧
 some
 [IV.int IntKind.i64 (IN.v x), IV.int IntKind.i64 (IN.op x), IV.int IntKind.i64 (IN.im x), IV.int IntKind.i64 (IN.iv x),
 IV.vslice none (0 : Nat) (List.length (IN.ks x)) (5 : Nat) (cTs (IN.ks x))] =
 some
 [IV.int IntKind.i64 (IN.v x_1), IV.int IntKind.i64 (IN.op x_1), IV.int IntKind.i64 (IN.im x_1), IV.int IntKind.i64 (IN.iv x_1),
 IV.vslice none (0 : Nat) (List.length (IN.ks x_1)) (5 : Nat) (cTs (IN.ks x_1))] ∧
 IN.g x = IN.g x_1 ∧ (IC x_1 ∧ valB (IN.t x_1) (6 : Int) (6 : Int) = true ∧ ¬(0 : Int) < IN.v x_1) ∧ True)))))))))) ∧
 (∀ (x : IN) (b : FF),
 IC x ∧ valB (IN.t x) (6 : Int) (6 : Int) = true ∧ ¬(0 : Int) < IN.v x →
 needS (decide ((0 : Int) ≤ IN.j x) && decide (IN.j x < (↑(List.length (IN.y x)) : Int)))
 (ldIS IntKind.i64 (List.flatMap cN (IN.y x)) (Int.toNat (IN.j x) * (3 : Nat) + (0 : Nat)) fun (n14 : Int) =>
 brS (n14 != IN.op x) (Q (IV.bool false) h)
 (needS (decide ((0 : Int) ≤ IN.j x) && decide (IN.j x < (↑(List.length (IN.y x)) : Int)))
 (ldVS (1 : Nat) (List.flatMap cN (IN.y x)) (Int.toNat (IN.j x) * (3 : Nat) + (2 : Nat)) fun (i15 : Option Nat) (e16 l17 : Nat) (c18 : List IV) =>
 brS ((↑l17 : Int) != (↑(List.length (IN.ks x)) : Int)) (Q (IV.bool false) h)
 ((∃ (x_1 : IN × Nat),
 some (TV.v (IV.vslice none (0 : Nat) (List.length (IN.x x)) (3 : Nat) (List.flatMap cN (IN.x x)))) =
 some (TV.v (IV.vslice none (0 : Nat) (List.length (IN.x (Prod.fst x_1))) (3 : Nat) (List.flatMap cN (IN.x (Prod.fst x_1))))) ∧
 some (TV.l (8 : Nat) (0 : Nat)) = some (TV.l (8 : Nat) (0 : Nat)) ∧
 some (TV.v (IV.vslice (IN.io x) (IN.e x) (List.length (IN.vars x)) (1 : Nat) (List.map (IV.int IntKind.i64) (IN.vars x)))) =
 some (TV.v (IV.vslice (IN.io (Prod.fst x_1)) (IN.e (Prod.fst x_1)) (List.length (IN.vars (Prod.fst x_1))) (1 : Nat) (List.map (IV.int IntKind.i64) (IN.vars (Prod.fst x_1))))) ∧
 some (TV.v (IV.vslice none (0 : Nat) (List.length (IN.y x)) (3 : Nat) (List.flatMap cN (IN.y x)))) =
 some (TV.v (IV.vslice none (0 : Nat) (List.length (IN.y (Prod.fst x_1))) (3 : Nat) (List.flatMap cN (IN.y (Prod.fst x_1))))) ∧
 some (TV.v (IV.int IntKind.i64 (IN.j x))) = some (TV.v (IV.int IntKind.i64 (IN.j (Prod.fst x_1)))) ∧
 some (TV.v (IV.int IntKind.i64 (↑(List.length (IN.ks x)) : Int))) = some (TV.v (IV.int IntKind.i64 (↑(List.length (IN.ks (Prod.fst x_1))) : Int))) ∧
 some (TV.v (IV.int IntKind.i64 (0 : Int))) = some (TV.v (IV.int IntKind.i64 (↑(Prod.snd x_1) : Int))) ∧
 some
 [IV.int IntKind.i64 (IN.v x), IV.int IntKind.i64 (IN.op x), IV.int IntKind.i64 (IN.im x), IV.int IntKind.i64 (IN.iv x),
 IV.vslice none (0 : Nat) (List.length (IN.ks x)) (5 : Nat) (cTs (IN.ks x))] =
 some
 [IV.int IntKind.i64 (IN.v (Prod.fst x_1)), IV.int IntKind.i64 (IN.op (Prod.fst x_1)), IV.int IntKind.i64 (IN.im (Prod.fst x_1)), IV.int IntKind.i64 (IN.iv (Prod.fst x_1)),
 IV.vslice none (0 : Nat) (List.length (IN.ks (Prod.fst x_1))) (5 : Nat) (cTs (IN.ks (Prod.fst x_1)))] ∧
 IN.g x = IN.g (Prod.fst x_1) ∧
 (IC (Prod.fst x_1) ∧ valB (IN.t (Prod.fst x_1)) (6 : Int) (6 : Int) = true ∧ ¬(0 : Int) < IN.v (Prod.fst x_1) ∧ Prod.snd x_1 ≤ List.length (IN.ks (Prod.fst x_1))) ∧ True) ∧
 ∀ (x : IN × Nat) (b : FF),
 IC (Prod.fst x) ∧ valB (IN.t (Prod.fst x)) (6 : Int) (6 : Int) = true ∧ ¬(0 : Int) < IN.v (Prod.fst x) ∧ Prod.snd x ≤ List.length (IN.ks (Prod.fst x)) →
 brS (decide ((↑(Prod.snd x) : Int) < (↑(List.length (IN.ks (Prod.fst x))) : Int)))
 (needS (decide ((0 : Int) ≤ (↑(Prod.snd x) : Int)) && decide ((↑(Prod.snd x) : Int) < (↑(List.length (IN.ks (Prod.fst x))) : Int)))
 (ldIS IntKind.i64 (cTs (IN.ks (Prod.fst x))) (Int.toNat (↑(Prod.snd x) : Int) * (5 : Nat)) fun (n19 : Int) =>
 ldIS IntKind.i64 (cTs (IN.ks (Prod.fst x))) (Int.toNat (↑(Prod.snd x) : Int) * (5 : Nat) + (1 : Nat)) fun (n20 : Int) =>
 ldIS IntKind.i64 (cTs (IN.ks (Prod.fst x))) (Int.toNat (↑(Prod.snd x) : Int) * (5 : Nat) + (1 : Nat) + (1 : Nat)) fun (n21 : Int) =>
 ldIS IntKind.i64 (cTs (IN.ks (Prod.fst x))) (Int.toNat (↑(Prod.snd x) : Int) * (5 : Nat) + (1 : Nat) + (1 : Nat) + (1 : Nat)) fun (n22 : Int) =>
 ldVS (5 : Nat) (cTs (IN.ks (Prod.fst x))) (Int.toNat (↑(Prod.snd x) : Int) * (5 : Nat) + (1 : Nat) + (1 : Nat) + (1 : Nat) + (1 : Nat))
 fun (i23 : Option Nat) (e24 l25 : Nat) (c26 : List IV) =>
 ∃ (l : List Nd),
 ∃ (ks : List T),
 ∃ (vars : List Int),
 ∃ (imms : List Int),
 (List.length (IN.y (Prod.fst x)) = List.length l ∧ List.flatMap cN (IN.y (Prod.fst x)) = List.flatMap cN l) ∧
 (l25 = List.length ks ∧ c26 = cTs ks) ∧
 (List.length (IN.vars (Prod.fst x)) = List.length vars ∧ List.map (IV.int IntKind.i64) (IN.vars (Prod.fst x)) = List.map (IV.int IntKind.i64) vars) ∧
 ((6 : Nat) = List.length imms ∧
 [IV.int IntKind.i64 (0 : Int), IV.int IntKind.i64 (0 : Int), IV.int IntKind.i64 (0 : Int), IV.int IntKind.i64 (0 : Int), IV.int IntKind.i64 (0 : Int),
 IV.int IntKind.i64 (0 : Int)] =
 List.map (IV.int IntKind.i64) imms) ∧
 ((l ≠ [] ∧ (∀ (x : Nd), x ∈ l → okN x) ∧ List.length l ≤ (1000000 : Nat) ∧ ∀ (x : Nd), x ∈ l → List.length (Nd.ks x) ≤ (1000000 : Nat)) ∧
 (T.ok (T.mk n19 n20 n21 n22 ks) ∧ T.num (T.mk n19 n20 n21 n22 ks) ≤ (1000000 : Nat)) ∧
 ((∀ (x : Int), x ∈ vars → i64b x) ∧ List.length vars ≤ (1000 : Nat)) ∧ (∀ (x : Int), x ∈ imms → i64b x) ∧ List.length imms ≤ (1000 : Nat)) ∧
 needS (decide ((0 : Int) ≤ IN.j (Prod.fst x)) && decide (IN.j (Prod.fst x) < (↑(List.length (IN.y (Prod.fst x))) : Int)))
 (ldVS (1 : Nat) (List.flatMap cN (IN.y (Prod.fst x))) (Int.toNat (IN.j (Prod.fst x)) * (3 : Nat) + (2 : Nat)) fun (i27 : Option Nat) (e28 l29 : Nat) (c30 : List IV) =>
 needS (decide ((0 : Int) ≤ (↑(Prod.snd x) : Int)) && decide ((↑(Prod.snd x) : Int) < (↑l29 : Int)))
 (ldIS IntKind.i64 c30 (Int.toNat (↑(Prod.snd x) : Int) * (1 : Nat)) fun (n31 : Int) =>
 brS (Prod.snd (instB l (T.mk n19 n20 n21 n22 ks) vars imms) != n31) (Q (IV.bool false) h)
 (∃ (x_1 : IN × Nat),
 some (TV.v (IV.vslice none (0 : Nat) (List.length (IN.x (Prod.fst x))) (3 : Nat) (List.flatMap cN (IN.x (Prod.fst x))))) =
 some (TV.v (IV.vslice none (0 : Nat) (List.length (IN.x (Prod.fst x_1))) (3 : Nat) (List.flatMap cN (IN.x (Prod.fst x_1))))) ∧
 some (TV.l (8 : Nat) (0 : Nat)) = some (TV.l (8 : Nat) (0 : Nat)) ∧
 some
 (TV.v
 (IV.vslice (IN.io (Prod.fst x)) (IN.e (Prod.fst x)) (List.length (IN.vars (Prod.fst x))) (1 : Nat)
 (List.map (IV.int IntKind.i64) (IN.vars (Prod.fst x))))) =
 some
 (TV.v
 (IV.vslice (IN.io (Prod.fst x_1)) (IN.e (Prod.fst x_1)) (List.length (IN.vars (Prod.fst x_1))) (1 : Nat)
 (List.map (IV.int IntKind.i64) (IN.vars (Prod.fst x_1))))) ∧
 some (TV.v (IV.vslice none (0 : Nat) (List.length (IN.y (Prod.fst x))) (3 : Nat) (List.flatMap cN (IN.y (Prod.fst x))))) =
 some (TV.v (IV.vslice none (0 : Nat) (List.length (IN.y (Prod.fst x_1))) (3 : Nat) (List.flatMap cN (IN.y (Prod.fst x_1))))) ∧
 some (TV.v (IV.int IntKind.i64 (IN.j (Prod.fst x)))) = some (TV.v (IV.int IntKind.i64 (IN.j (Prod.fst x_1)))) ∧
 some (TV.v (IV.int IntKind.i64 (↑(List.length (IN.ks (Prod.fst x))) : Int))) =
 some (TV.v (IV.int IntKind.i64 (↑(List.length (IN.ks (Prod.fst x_1))) : Int))) ∧
 some (TV.v (IV.int IntKind.i64 (IntKind.wrap IntKind.i64 ((↑(Prod.snd x) : Int) + (1 : Int))))) =
 some (TV.v (IV.int IntKind.i64 (↑(Prod.snd x_1) : Int))) ∧
 some
 [IV.int IntKind.i64 (IN.v (Prod.fst x)), IV.int IntKind.i64 (IN.op (Prod.fst x)), IV.int IntKind.i64 (IN.im (Prod.fst x)),
 IV.int IntKind.i64 (IN.iv (Prod.fst x)),
 IV.vslice none (0 : Nat) (List.length (IN.ks (Prod.fst x))) (5 : Nat) (cTs (IN.ks (Prod.fst x)))] =
 some
 [IV.int IntKind.i64 (IN.v (Prod.fst x_1)), IV.int IntKind.i64 (IN.op (Prod.fst x_1)), IV.int IntKind.i64 (IN.im (Prod.fst x_1)),
 IV.int IntKind.i64 (IN.iv (Prod.fst x_1)),
 IV.vslice none (0 : Nat) (List.length (IN.ks (Prod.fst x_1))) (5 : Nat) (cTs (IN.ks (Prod.fst x_1)))] ∧
 Heap.push (IN.g (Prod.fst x)) (IObj.tip (6 : Nat)) = IN.g (Prod.fst x_1) ∧
 (IC (Prod.fst x_1) ∧
 valB (IN.t (Prod.fst x_1)) (6 : Int) (6 : Int) = true ∧
 ¬(0 : Int) < IN.v (Prod.fst x_1) ∧ Prod.snd x_1 ≤ List.length (IN.ks (Prod.fst x_1))) ∧
 List.length (IN.ks (Prod.fst x_1)) - Prod.snd x_1 < List.length (IN.ks (Prod.fst x)) - Prod.snd x)))))
 (Q (IV.bool true) h)))))) ∧
 True)) := by kernel_rfl
set_option maxHeartbeats 2000000 in
theorem sInstL : ∀ xs h Q, kInstL xs h Q → CallW env 7 xs h Q := by
  intro xs h Q hk
  unfold kInstL at hk
  split at hk
  · rename_i e1 n1 c1 e2 n2 c2 e3 n3 c3
    obtain ⟨l, m, hh, ⟨rfl, rfl⟩, ⟨rfl, rfl⟩, ⟨rfl, rfl⟩, hb, hk⟩ := hk
    refine dF_run (okPat0) (vInstL l m hh e1 e2 e3 h Q) ?_
    have tn : ∀ x : Nat, (x : Int).toNat = x := Int.toNat_natCast
    obtain ⟨hb1, hb2, hb3, hb4, hb5, hb6⟩ := hb
    have eta : ∀ t : T, T.mk t.v t.op t.im t.iv t.ks = t := fun t => by cases t; rfl
    refine needS_intro (by simp only [pureL, pureB, pureL_ints, Bool.and_true]) ⟨?_, ?_, ?_, ?_, ?_, ?_, trivial⟩
    · refine ⟨m, ⟨rfl, rfl⟩, ⟨hb2, hb5⟩, fun X hX => brS_intro (fun c => ?_) (fun c => needS_intro (by rw [Nat.ble_eq]; omega) ?_)⟩
      · exact ⟨[0], ⟨rfl, rfl⟩, ⟨rfl, fun x hx => by rw [List.mem_singleton.1 hx]; unfold i64b; omega, by simp⟩, fun v op im iv ks hok hnum hvo => ⟨⟨X, v, op, im, iv, ks, [], none, 1, .nilslice, _⟩, (by first | rfl | exact True.intro), (by first | rfl | exact True.intro), (by first | rfl | exact True.intro), (by first | rfl | exact True.intro), (by first | rfl | exact True.intro), ⟨⟨hX, ⟨hok, hnum, hvo⟩, Nat.zero_le _⟩, rfl⟩, trivial⟩⟩
      · refine ⟨0 :: l, ⟨by rw [List.length_cons, Nat.add_comm], rfl⟩, ⟨rfl, fun x hx => ?_, by rw [List.length_cons]; omega⟩, fun v op im iv ks hok hnum hvo => ⟨⟨X, v, op, im, iv, ks, [], none, 1, .nilslice, _⟩, (by first | rfl | exact True.intro), (by first | rfl | exact True.intro), (by first | rfl | exact True.intro), (by first | rfl | exact True.intro), (by first | rfl | exact True.intro), ⟨⟨hX, ⟨hok, hnum, hvo⟩, Nat.zero_le _⟩, rfl⟩, trivial⟩⟩
        rcases List.mem_cons.1 hx with rfl | hx
        · unfold i64b; omega
        · exact hb1 x hx
    · rintro x _ ⟨hib, hv0⟩
      refine ⟨⟨⟨x.x, x.v, x.op, x.im, x.iv, x.ks, [], none, 1, .nilslice, x.g⟩, (by first | rfl | exact True.intro), (by first | rfl | exact True.intro), (by first | rfl | exact True.intro), (by first | rfl | exact True.intro), (by first | rfl | exact True.intro), (by first | rfl | exact True.intro), (by first | rfl | exact True.intro), ⟨⟨hib.1, hib.2.1, Nat.zero_le _⟩, fun q hq => (by cases hq), .inl ⟨rfl, rfl⟩⟩, trivial⟩, ?_⟩
      rintro x _ ⟨hib, hix, hvh⟩
      have hxl := hib.1.1
      have hl6 := hib.2.2
      refine brS_intro (fun c => ?_) (fun c => ⟨x, (by first | rfl | exact True.intro), (by first | rfl | exact True.intro), (by first | rfl | exact True.intro), (by first | rfl | exact True.intro), (by first | rfl | exact True.intro), ⟨hib, hix, by rw [decide_eq_false_iff_not] at c; omega⟩, trivial⟩)
      rw [decide_eq_true_eq] at c
      have w1 : IntKind.i64.wrap ((x.x.length : Int) - 1) = (x.x.length : Int) - 1 := IntWalk.i64_in _ (by omega)
      rw [w1]
      have ha : ∀ y ∈ ([0, 1, (x.x.length : Int) - 1] : List Int), 0 ≤ y ∧ y < (x.x.length : Int) := by
        intro y hy
        simp only [List.mem_cons, List.not_mem_nil, or_false] at hy
        omega
      refine brS_intro (fun c2 => ?_) (fun c2 => ?_)
      · rw [decide_eq_true_eq] at c2
        have hlt : x.vars.length < hh.length := by omega
        refine needS_intro (by simp; omega) (ldI1 hlt (by rw [Nat.mul_one, tn]) ⟨by omega, needS_intro (by simp; omega) ?_⟩)
        show ldIS .i64 (([0, 1, (x.x.length : Int) - 1] : List Int).map (IV.int .i64)) _ _
        have hl : (hh[x.vars.length] % 3).toNat < ([0, 1, (x.x.length : Int) - 1] : List Int).length := by simp; omega
        refine ldI1 hl (Nat.mul_one _) (app_vars hvh (by omega) (fun id h2 hv2 => ⟨⟨x.x, x.v, x.op, x.im, x.iv, x.ks, x.vars ++ [_], some id, _, .nilslice, h2⟩, (by first | rfl | exact True.intro), (by first | rfl | exact True.intro), (by first | rfl | exact True.intro), (by first | rfl | exact True.intro), (by rw [IntWalk.i64_in _ (by omega)]; simp), (by first | rfl | exact True.intro), (by first | rfl | exact True.intro), ⟨⟨hib.1, hib.2.1, by simp; omega⟩, fun q hq => ?_, hv2⟩, by simp; omega⟩))
        rcases List.mem_append.1 hq with hq | hq
        · exact hix q hq
        · rw [List.mem_singleton.1 hq]
          exact ha _ (List.getElem_mem hl)
      · refine ⟨by omega, needS_intro (by simp; omega) ?_⟩
        show ldIS .i64 (([0, 1, (x.x.length : Int) - 1] : List Int).map (IV.int .i64)) _ _
        have hl : ((x.vars.length : Int) % 3).toNat < ([0, 1, (x.x.length : Int) - 1] : List Int).length := by simp; omega
        refine ldI1 hl (Nat.mul_one _) (app_vars hvh (by omega) (fun id h2 hv2 => ⟨⟨x.x, x.v, x.op, x.im, x.iv, x.ks, x.vars ++ [_], some id, _, .nilslice, h2⟩, (by first | rfl | exact True.intro), (by first | rfl | exact True.intro), (by first | rfl | exact True.intro), (by first | rfl | exact True.intro), (by rw [IntWalk.i64_in _ (by omega)]; simp), (by first | rfl | exact True.intro), (by first | rfl | exact True.intro), ⟨⟨hib.1, hib.2.1, by simp; omega⟩, fun q hq => ?_, hv2⟩, by simp; omega⟩))
        rcases List.mem_append.1 hq with hq | hq
        · exact hix q hq
        · rw [List.mem_singleton.1 hq]
          exact ha _ (List.getElem_mem hl)
    · rintro x _ hc
      have hlx := hc.lx
      have hpn := hc.pb.2.1
      have hv6 := hc.v6
      have hkx := hc.kx
      exact ⟨x.x, x.ks, x.vars, Z6, ⟨rfl, rfl⟩, ⟨rfl, rfl⟩, ⟨rfl, rfl⟩, ⟨rfl, rfl⟩, ⟨⟨hc.ne, hc.okx, by omega, hkx⟩, ⟨hc.pb.1, by show x.t.num ≤ 1000000; omega⟩, ⟨hc.vb, by omega⟩, z6_i64, by decide⟩, ⟨⟨x.x, x.v, x.op, x.im, x.iv, x.ks, x.vars, x.io, x.e, .nilslice, _⟩, (by first | rfl | exact True.intro), (by first | rfl | exact True.intro), (by first | rfl | exact True.intro), (by first | rfl | exact True.intro), (by first | rfl | exact True.intro), (by first | rfl | exact True.intro), (by first | rfl | exact True.intro), hc, trivial⟩⟩
    · rintro x _ hc
      obtain ⟨n1, n2, n3, n4, n5⟩ := hc.num
      have hlx := hc.lx
      have hly := hc.ly
      have hpn := hc.pb.2.1
      have hv6 := hc.v6
      refine ⟨x.ks, ⟨rfl, rfl⟩, ⟨n3, by omega⟩, brS_intro (fun c => ?_) (fun c => ?_)⟩
      · have hno : ¬ valB x.t 6 6 = true := fun e => by
          have c : (!valB x.t 6 6) = true := c
          rw [e] at c
          cases c
        obtain ⟨e1, e2⟩ := hc.no hno
        exact brS_intro (fun _ => ⟨x.x, x.y, ⟨rfl, rfl⟩, ⟨rfl, rfl⟩, ⟨fun n hn => by have := hc.kx n hn; omega, by omega⟩, brS_intro (fun _ => hk) (fun c => absurd e1.symm (by simpa using c))⟩) (fun c => absurd e2 (by simpa using c))
      · rw [Bool.not_eq_false'] at c
        have hv : valB x.t 6 6 = true := c
        have ea : instB x.y (T.mk x.v x.op x.im x.iv x.ks) x.vars Z6 = (x.y, x.j) := hc.again hv
        exact ⟨x.y, x.ks, x.vars, Z6, ⟨rfl, rfl⟩, ⟨rfl, rfl⟩, ⟨rfl, rfl⟩, ⟨rfl, rfl⟩, ⟨⟨hc.ney, hc.oky, by omega, hc.ky⟩, ⟨hc.pb.1, by show x.t.num ≤ 1000000; omega⟩, ⟨hc.vb, by omega⟩, z6_i64, by decide⟩, ⟨⟨x.x, x.v, x.op, x.im, x.iv, x.ks, x.vars, x.io, x.e, .nilslice, _⟩, (by first | rfl | exact True.intro), (by first | rfl | exact True.intro), (by first | rfl | exact True.intro), (by first | rfl | exact True.intro), (by first | rfl | exact True.intro), (by rw [ea]; rfl), (by rw [ea]; rfl), (by first | rfl | exact True.intro), (by first | rfl | exact True.intro), ⟨hc, hv⟩, trivial⟩⟩
    · rintro x _ ⟨hc, hv⟩
      obtain ⟨n1, n2, n3, n4, n5⟩ := hc.num
      have hlx := hc.lx
      have hly := hc.ly
      have hr := hc.rng hv
      have hp := hc.pre
      have hpl := hp.length_le
      have ht := List.prefix_iff_eq_take.1 hp
      refine brS_intro (fun c => by simp at c) (fun _ => ⟨x.y, x.y, ⟨rfl, rfl⟩, ⟨rfl, rfl⟩, ⟨fun n hn => by have := hc.ky n hn; omega, by omega⟩, brS_intro (fun c => by simp at c) (fun _ => brS_intro (fun c => absurd (of_decide_eq_true c) (by omega)) (fun _ => needS_intro (by simp; omega) ⟨x.x, x.x, ⟨by rw [tn, Nat.sub_zero], by rw [tn, Nat.sub_zero, List.drop_zero, cN_take, ← ht]⟩, ⟨rfl, rfl⟩, ⟨fun n hn => by have := hc.kx n hn; omega, by omega⟩, brS_intro (fun c => by simp at c) (fun _ => brS_intro (fun c => absurd (of_decide_eq_true c) (by omega)) (fun _ => brS_intro (fun c => absurd (of_decide_eq_true c) (by omega)) (fun _ => ⟨nums x.ks + 1, x.ks, ⟨rfl, rfl⟩, ⟨Nat.lt_succ_self _, n3, by omega⟩, brS_intro (fun c => ?_) (fun _ => brS_intro (fun c => ?_) (fun c => ⟨x, (by first | rfl | exact True.intro), (by first | rfl | exact True.intro), (by first | rfl | exact True.intro), (by first | rfl | exact True.intro), (by first | rfl | exact True.intro), (by first | rfl | exact True.intro), (by first | rfl | exact True.intro), ⟨hc, hv, by rw [decide_eq_false_iff_not] at c; exact c⟩, trivial⟩))⟩)))⟩))⟩)
      · exfalso
        rw [decide_eq_true_eq, n5, IntWalk.i64_in _ (by omega)] at c
        omega
      · rw [decide_eq_true_eq] at c
        obtain ⟨v1, v2, v3, v4⟩ := hc.var hv c
        have hv6 := hc.v6
        have w1 : IntKind.i64.wrap (x.v - 1) = x.v - 1 := IntWalk.i64_in _ (by omega)
        rw [w1]
        refine needS_intro (by simp; omega) (ldI1 v1 (Nat.mul_one _) (brS_intro (fun _ => hk) (fun c => ?_)))
        rw [List.getElem?_eq_getElem v1] at v2
        rw [Option.some.inj v2] at c
        simp at c
    · rintro x _ ⟨hc, hv, h0⟩
      obtain ⟨im, ks, e1, e2, e3, e4⟩ := hc.node hv h0
      have hlt : x.j.toNat < x.y.length := by omega
      have eg : x.y[x.j.toNat] = ⟨x.op, im, ks⟩ := by rw [List.getElem?_eq_getElem hlt] at e1; exact Option.some.inj e1
      refine needS_intro (by simp; omega) (ldNo hlt rfl (brS_intro (fun c => absurd (by rw [eg]) (bne_iff_ne.1 c)) (fun _ => needS_intro (by simp; omega) (ldNk hlt rfl (brS_intro (fun c => absurd (by rw [eg, e3]) (bne_iff_ne.1 c)) (fun _ => ⟨⟨(x, 0), (by first | rfl | exact True.intro), (by first | rfl | exact True.intro), (by first | rfl | exact True.intro), (by first | rfl | exact True.intro), (by first | rfl | exact True.intro), (by first | rfl | exact True.intro), (by first | rfl | exact True.intro), (by first | rfl | exact True.intro), (by first | rfl | exact True.intro), ⟨hc, hv, h0, Nat.zero_le _⟩, trivial⟩, ?_⟩))))))
      rintro ⟨x, i⟩ _ ⟨hc, hv, h0, hi⟩
      dsimp only at hc hv h0 hi ⊢
      obtain ⟨im, ks, e1, e2, e3, e4⟩ := hc.node hv h0
      have hlt : x.j.toNat < x.y.length := by omega
      have eg : x.y[x.j.toNat] = ⟨x.op, im, ks⟩ := by rw [List.getElem?_eq_getElem hlt] at e1; exact Option.some.inj e1
      obtain ⟨n1, n2, n3, n4, n5⟩ := hc.num
      have hlx := hc.lx
      have hly := hc.ly
      have hv6 := hc.v6
      refine brS_intro (fun c => ?_) (fun _ => hk)
      rw [decide_eq_true_eq] at c
      have hi2 : i < x.ks.length := by omega
      have hnl := num_lt (List.getElem_mem hi2)
      obtain ⟨q1, q2⟩ := e4 i hi2
      simp only [tn]
      refine needS_intro (by simp; omega) (ldT hi2 rfl ⟨x.y, x.ks[i].ks, x.vars, Z6, ⟨rfl, rfl⟩, ⟨rfl, rfl⟩, ⟨rfl, rfl⟩, ⟨rfl, rfl⟩, ⟨⟨hc.ney, hc.oky, by omega, hc.ky⟩, ⟨?_, ?_⟩, ⟨hc.vb, by omega⟩, z6_i64, by decide⟩, needS_intro (by simp; omega) (ldNk hlt rfl (needS_intro (by rw [eg]; simp; omega) ?_))⟩)
      · rw [eta]
        exact ok_kid hc.pb.1.2 (List.getElem_mem hi2)
      · rw [eta]
        omega
      have q3 : i < x.y[x.j.toNat].ks.length := by rw [eg]; exact q1
      have q4 : x.y[x.j.toNat].ks[i] = ks[i] := by simp only [eg]
      refine ldI1 q3 (Nat.mul_one _) (brS_intro (fun c => ?_) (fun _ => ⟨(⟨x.x, x.v, x.op, x.im, x.iv, x.ks, x.vars, x.io, x.e, .nilslice, _⟩, i + 1), (by first | rfl | exact True.intro), (by first | rfl | exact True.intro), (by first | rfl | exact True.intro), (by first | rfl | exact True.intro), (by first | rfl | exact True.intro), (by first | rfl | exact True.intro), (by rw [IntWalk.i64_in _ (by omega)]; rfl), (by first | rfl | exact True.intro), (by first | rfl | exact True.intro), ⟨hc, hv, h0, hi2⟩, by dsimp only; omega⟩))
      exfalso
      rw [eta, q2, q4] at c
      simp at c
  · exact hk.elim
def cInstL := addC 7 kInstL cPat0
theorem okInstL : Sound env cInstL := sound_add sInstL (okPat0)

def ps3 (hh : List Int) : Inv' := atX IN (fun x => [(2, .v (.vslice none 0 (hh).length 1 ((hh).map (IV.int .i64)))), (7, .v (.vslice none 0 (x.x).length 3 ((x.x).flatMap cN))), (8, .l 8 0)]) (fun x => [(8, [.int .i64 x.v, .int .i64 x.op, .int .i64 x.im, .int .i64 x.iv, .vslice none 0 x.ks.length 5 (cTs x.ks)])]) (fun x => x.g) (fun x => IB x ∧ x.vars = []) (fun x => 0)
def ps5 (hh : List Int) : Inv' := atX IN (fun x => [(2, .v (.vslice none 0 (hh).length 1 ((hh).map (IV.int .i64)))), (7, .v (.vslice none 0 (x.x).length 3 ((x.x).flatMap cN))), (8, .l 8 0)]) (fun x => [(8, [.int .i64 x.v, .int .i64 x.op, .int .i64 x.im, .int .i64 x.iv, .vslice none 0 x.ks.length 5 (cTs x.ks)])]) (fun x => x.g) (fun x => IB x ∧ x.vars = [] ∧ valB x.t 6 6 = true) (fun x => 0)
def psInv (hh : List Int) : Inv' := atX IN (fun x => [(2, .v (.vslice none 0 (hh).length 1 ((hh).map (IV.int .i64)))), (7, .v (.vslice none 0 (x.x).length 3 ((x.x).flatMap cN))), (8, .l 8 0), (9, .v x.sv), (10, .v (.int .i64 x.vars.length))]) (fun x => [(8, [.int .i64 x.v, .int .i64 x.op, .int .i64 x.im, .int .i64 x.iv, .vslice none 0 x.ks.length 5 (cTs x.ks)])]) (fun x => x.g) (fun x => IB x ∧ IV1 x.x x.vars ∧ SVH x ∧ valB x.t 6 6 = true) (fun x => 6 - x.vars.length)
def ps16  : Inv' := atX IN (fun x => [(7, .v (.vslice none 0 (x.x).length 3 ((x.x).flatMap cN))), (8, .l 8 0), (9, .v (.vslice x.io x.e x.vars.length 1 (x.vars.map (IV.int .i64))))]) (fun x => [(8, [.int .i64 x.v, .int .i64 x.op, .int .i64 x.im, .int .i64 x.iv, .vslice none 0 x.ks.length 5 (cTs x.ks)])]) (fun x => x.g) (fun x => IC x ∧ IV1 x.x x.vars ∧ valB x.t 6 6 = true) (fun x => 0)
def ps17  : Inv' := atX IN (fun x => [(13, .v (.vslice none 0 (x.y).length 3 ((x.y).flatMap cN))), (14, .v (.int .i64 x.j))]) (fun _ => []) (fun x => x.g) (fun x => IC x ∧ IV1 x.x x.vars ∧ valB x.t 6 6 = true) (fun x => 0)
def pqInv  : Inv' := atX (IN × Nat) (fun x => [(13, .v (.vslice none 0 (x.1.y).length 3 ((x.1.y).flatMap cN))), (14, .v (.int .i64 x.1.j)), (74, .v (.vslice none 0 (sortsA x.1.y).length 1 ((sortsA x.1.y).map (IV.int .i64)))), (75, .v (.int .i64 x.1.y.length)), (76, .v (.int .i64 x.2))]) (fun _ => []) (fun x => x.1.g) (fun x => (IC x.1 ∧ IV1 x.1.x x.1.vars ∧ valB x.1.t 6 6 = true) ∧ x.2 ≤ x.1.y.length) (fun x => x.1.y.length - x.2)
def kSortL (xs : List IV) (h : Heap) (K : IV → Heap → Prop) : Prop := match xs with
  | [.vslice none e1 n1 1 c1, .vslice none e2 n2 1 c2, .vslice none e3 n3 1 c3] => ∃ l m hh : List Int, (n1 = l.length ∧ c1 = l.map (IV.int .i64)) ∧ (n2 = m.length ∧ c2 = m.map (IV.int .i64)) ∧ (n3 = hh.length ∧ c3 = hh.map (IV.int .i64)) ∧ ((∀ x ∈ l, i64b x) ∧ (∀ x ∈ m, i64b x) ∧ (∀ x ∈ hh, i64b x) ∧ l.length ≤ 17592186043904 ∧ m.length ≤ 9223372036854775807 ∧ hh.length ≤ 9223372036854775807) ∧ K (.bool true) h
  | _ => False
set_option maxRecDepth 100000 in
theorem vSortL (l m hh : List Int) (e1 e2 e3 : Nat) (h : Heap) (Q : IV → Heap → Prop) : dF (stdS cInstL) env 8 noU (icA 8 (psInv hh) (ic1 21 pqInv)) (icS (icA 4 (ps3 hh) (icA 6 (ps5 hh) (icA 17 ps16 (ic1 18 ps17))))) [.vslice none e1 (l).length 1 ((l).map (IV.int .i64)), .vslice none e2 (m).length 1 ((m).map (IV.int .i64)), .vslice none e3 (hh).length 1 ((hh).map (IV.int .i64))] h Q = (
  needS
 (pureL
 [IV.vslice none (0 : Nat) (List.length l) (1 : Nat) (List.map (IV.int IntKind.i64) l), IV.vslice none (0 : Nat) (List.length m) (1 : Nat) (List.map (IV.int IntKind.i64) m),
 IV.vslice none (0 : Nat) (List.length hh) (1 : Nat) (List.map (IV.int IntKind.i64) hh)])
 ((∃ (l_1 : List Int),
 (List.length m = List.length l_1 ∧ List.map (IV.int IntKind.i64) m = List.map (IV.int IntKind.i64) l_1) ∧
 ((∀ (x : Int), x ∈ l_1 → i64b x) ∧ List.length l_1 ≤ (9223372036854775807 : Nat)) ∧
 ∀ (x : List Nd),
 NW (14 : Nat) x →
 brS (Nat.beq (List.length l) (0 : Nat))
 (∃ (l : List Int),
 ((1 : Nat) = List.length l ∧ [IV.int IntKind.i64 (0 : Int)] = List.map (IV.int IntKind.i64) l) ∧
 (List.head? l = some (0 : Int) ∧ (∀ (x : Int), x ∈ l → i64b x) ∧ List.length l ≤ (9223372036854775807 : Nat)) ∧
 ∀ (v op im iv : Int) (ks : List T),
 T.ok (T.mk v op im iv ks) →
 T.num (T.mk v op im iv ks) ≤ (40 : Nat) →
 T.vo (T.mk v op im iv ks) →
 ∃ (x_1 : IN),
 some (TV.v (IV.vslice none (0 : Nat) (List.length hh) (1 : Nat) (List.map (IV.int IntKind.i64) hh))) = some (TV.v (IV.vslice none (0 : Nat) (List.length hh) (1 : Nat) (List.map (IV.int IntKind.i64) hh))) ∧
 some (TV.v (IV.vslice none (0 : Nat) (List.length x) (3 : Nat) (List.flatMap cN x))) = some (TV.v (IV.vslice none (0 : Nat) (List.length (IN.x x_1)) (3 : Nat) (List.flatMap cN (IN.x x_1)))) ∧
 some (TV.l (8 : Nat) (0 : Nat)) = some (TV.l (8 : Nat) (0 : Nat)) ∧
 some [IV.int IntKind.i64 v, IV.int IntKind.i64 op, IV.int IntKind.i64 im, IV.int IntKind.i64 iv, IV.vslice none (0 : Nat) (List.length ks) (5 : Nat) (cTs ks)] =
 some
 [IV.int IntKind.i64 (IN.v x_1), IV.int IntKind.i64 (IN.op x_1), IV.int IntKind.i64 (IN.im x_1), IV.int IntKind.i64 (IN.iv x_1),
 IV.vslice none (0 : Nat) (List.length (IN.ks x_1)) (5 : Nat) (cTs (IN.ks x_1))] ∧
 Heap.mk PT.nil (0 : Nat) = IN.g x_1 ∧ (IB x_1 ∧ IN.vars x_1 = []) ∧ True)
 (needS (Nat.ble (((1 : Nat) + List.length l) * (8 : Nat)) (140737488355328 : Nat))
 (∃ (l_2 : List Int),
 ((1 : Nat) + List.length l = List.length l_2 ∧ IV.int IntKind.i64 (0 : Int) :: List.map (IV.int IntKind.i64) l = List.map (IV.int IntKind.i64) l_2) ∧
 (List.head? l_2 = some (0 : Int) ∧ (∀ (x : Int), x ∈ l_2 → i64b x) ∧ List.length l_2 ≤ (9223372036854775807 : Nat)) ∧
 ∀ (v op im iv : Int) (ks : List T),
 T.ok (T.mk v op im iv ks) →
 T.num (T.mk v op im iv ks) ≤ (40 : Nat) →
 T.vo (T.mk v op im iv ks) →
 ∃ (x_1 : IN),
 some (TV.v (IV.vslice none (0 : Nat) (List.length hh) (1 : Nat) (List.map (IV.int IntKind.i64) hh))) = some (TV.v (IV.vslice none (0 : Nat) (List.length hh) (1 : Nat) (List.map (IV.int IntKind.i64) hh))) ∧
 some (TV.v (IV.vslice none (0 : Nat) (List.length x) (3 : Nat) (List.flatMap cN x))) = some (TV.v (IV.vslice none (0 : Nat) (List.length (IN.x x_1)) (3 : Nat) (List.flatMap cN (IN.x x_1)))) ∧
 some (TV.l (8 : Nat) (0 : Nat)) = some (TV.l (8 : Nat) (0 : Nat)) ∧
 some [IV.int IntKind.i64 v, IV.int IntKind.i64 op, IV.int IntKind.i64 im, IV.int IntKind.i64 iv, IV.vslice none (0 : Nat) (List.length ks) (5 : Nat) (cTs ks)] =
 some
 [IV.int IntKind.i64 (IN.v x_1), IV.int IntKind.i64 (IN.op x_1), IV.int IntKind.i64 (IN.im x_1), IV.int IntKind.i64 (IN.iv x_1),
 IV.vslice none (0 : Nat) (List.length (IN.ks x_1)) (5 : Nat) (cTs (IN.ks x_1))] ∧
 Heap.mk (PT.node PT.nil (some (IObj.tip (((1 : Nat) + List.length l) * (1 : Nat)))) PT.nil) ((0 : Nat) + (1 : Nat)) = IN.g x_1 ∧ (IB x_1 ∧ IN.vars x_1 = []) ∧ True))) ∧
 (∀ (x : IN) (b : FF),
 IB x ∧ IN.vars x = [] →
 ∃ (ks : List T),
 (List.length (IN.ks x) = List.length ks ∧ cTs (IN.ks x) = cTs ks) ∧
 (thins ks ∧ List.length ks ≤ (1000000000000000 : Nat)) ∧
 brS (!valB (T.mk (IN.v x) (IN.op x) (IN.im x) (IN.iv x) ks) (6 : Int) (6 : Int))
 (∃ (ks : List T),
 (List.length (IN.ks x) = List.length ks ∧ cTs (IN.ks x) = cTs ks) ∧
 (thins ks ∧ List.length ks ≤ (1000000000000000 : Nat)) ∧ brS (!valB (T.mk (IN.v x) (IN.op x) (IN.im x) (IN.iv x) ks) (6 : Int) (6 : Int)) (Q (IV.bool true) h) (Q (IV.bool false) h))
 (∃ (x_1 : IN),
 some (TV.v (IV.vslice none (0 : Nat) (List.length hh) (1 : Nat) (List.map (IV.int IntKind.i64) hh))) = some (TV.v (IV.vslice none (0 : Nat) (List.length hh) (1 : Nat) (List.map (IV.int IntKind.i64) hh))) ∧
 some (TV.v (IV.vslice none (0 : Nat) (List.length (IN.x x)) (3 : Nat) (List.flatMap cN (IN.x x)))) = some (TV.v (IV.vslice none (0 : Nat) (List.length (IN.x x_1)) (3 : Nat) (List.flatMap cN (IN.x x_1)))) ∧
 some (TV.l (8 : Nat) (0 : Nat)) = some (TV.l (8 : Nat) (0 : Nat)) ∧
 some [IV.int IntKind.i64 (IN.v x), IV.int IntKind.i64 (IN.op x), IV.int IntKind.i64 (IN.im x), IV.int IntKind.i64 (IN.iv x), IV.vslice none (0 : Nat) (List.length (IN.ks x)) (5 : Nat) (cTs (IN.ks x))] =
 some
 [IV.int IntKind.i64 (IN.v x_1), IV.int IntKind.i64 (IN.op x_1), IV.int IntKind.i64 (IN.im x_1), IV.int IntKind.i64 (IN.iv x_1),
 IV.vslice none (0 : Nat) (List.length (IN.ks x_1)) (5 : Nat) (cTs (IN.ks x_1))] ∧
 IN.g x = IN.g x_1 ∧ (IB x_1 ∧ IN.vars x_1 = [] ∧ valB (IN.t x_1) (6 : Int) (6 : Int) = true) ∧ True)) ∧
 (∀ (x : IN) (b : FF),
 IB x ∧ IN.vars x = [] ∧ valB (IN.t x) (6 : Int) (6 : Int) = true →
 (∃ (x_1 : IN),
 some (TV.v (IV.vslice none (0 : Nat) (List.length hh) (1 : Nat) (List.map (IV.int IntKind.i64) hh))) = some (TV.v (IV.vslice none (0 : Nat) (List.length hh) (1 : Nat) (List.map (IV.int IntKind.i64) hh))) ∧
 some (TV.v (IV.vslice none (0 : Nat) (List.length (IN.x x)) (3 : Nat) (List.flatMap cN (IN.x x)))) = some (TV.v (IV.vslice none (0 : Nat) (List.length (IN.x x_1)) (3 : Nat) (List.flatMap cN (IN.x x_1)))) ∧
 some (TV.l (8 : Nat) (0 : Nat)) = some (TV.l (8 : Nat) (0 : Nat)) ∧
 some (TV.v IV.nilslice) = some (TV.v (IN.sv x_1)) ∧
 some (TV.v (IV.int IntKind.i64 (0 : Int))) = some (TV.v (IV.int IntKind.i64 (↑(List.length (IN.vars x_1)) : Int))) ∧
 some [IV.int IntKind.i64 (IN.v x), IV.int IntKind.i64 (IN.op x), IV.int IntKind.i64 (IN.im x), IV.int IntKind.i64 (IN.iv x), IV.vslice none (0 : Nat) (List.length (IN.ks x)) (5 : Nat) (cTs (IN.ks x))] =
 some
 [IV.int IntKind.i64 (IN.v x_1), IV.int IntKind.i64 (IN.op x_1), IV.int IntKind.i64 (IN.im x_1), IV.int IntKind.i64 (IN.iv x_1),
 IV.vslice none (0 : Nat) (List.length (IN.ks x_1)) (5 : Nat) (cTs (IN.ks x_1))] ∧
 IN.g x = IN.g x_1 ∧ (IB x_1 ∧ IV1 (IN.x x_1) (IN.vars x_1) ∧ SVH x_1 ∧ valB (IN.t x_1) (6 : Int) (6 : Int) = true) ∧ True) ∧
 ∀ (x : IN) (b : FF),
 IB x ∧ IV1 (IN.x x) (IN.vars x) ∧ SVH x ∧ valB (IN.t x) (6 : Int) (6 : Int) = true →
 brS (decide ((↑(List.length (IN.vars x)) : Int) < (6 : Int)))
 (brS (decide ((↑(List.length (IN.vars x)) : Int) < (↑(List.length hh) : Int)))
 (needS (decide ((0 : Int) ≤ (↑(List.length (IN.vars x)) : Int)) && decide ((↑(List.length (IN.vars x)) : Int) < (↑(List.length hh) : Int)))
 (ldIS IntKind.i64 (List.map (IV.int IntKind.i64) hh) (Int.toNat (↑(List.length (IN.vars x)) : Int) * (1 : Nat)) fun (n0 : Int) =>
 ((0 : Int) < (↑(List.length (IN.x x)) : Int) ∧ (↑(List.length (IN.x x)) : Int) < (4611686018427387904 : Int)) ∧
 ∃ (l : List Nd),
 (List.length (IN.x x) = List.length l ∧ List.flatMap cN (IN.x x) = List.flatMap cN l) ∧
 ((∀ (x : Nd), x ∈ l → List.length (Nd.ks x) ≤ (1000000 : Nat) ∧ Nd.op x ≠ (25 : Int) ∧ Nd.op x ≠ (30 : Int) ∧ Nd.op x ≠ (31 : Int)) ∧
 List.length l ≤ (1000000 : Nat) ∧ (0 : Int) ≤ n0 % (↑(List.length (IN.x x)) : Int) ∧ n0 % (↑(List.length (IN.x x)) : Int) < (↑(List.length l) : Int)) ∧
 brS (List.getD (sortsA l) (Int.toNat (n0 % (↑(List.length (IN.x x)) : Int))) (0 : Int) != (1 : Int))
 (appGS (IN.g x) (1 : Nat) (8 : Nat) (IN.sv x) (1 : Nat) [IV.int IntKind.i64 (0 : Int)] fun (i1 e2 l3 : Nat) (c4 : List IV) (g5 : Heap) =>
 ∃ (x_1 : IN),
 some (TV.v (IV.vslice none (0 : Nat) (List.length hh) (1 : Nat) (List.map (IV.int IntKind.i64) hh))) =
 some (TV.v (IV.vslice none (0 : Nat) (List.length hh) (1 : Nat) (List.map (IV.int IntKind.i64) hh))) ∧
 some (TV.v (IV.vslice none (0 : Nat) (List.length (IN.x x)) (3 : Nat) (List.flatMap cN (IN.x x)))) =
 some (TV.v (IV.vslice none (0 : Nat) (List.length (IN.x x_1)) (3 : Nat) (List.flatMap cN (IN.x x_1)))) ∧
 some (TV.l (8 : Nat) (0 : Nat)) = some (TV.l (8 : Nat) (0 : Nat)) ∧
 some (TV.v (IV.vslice (some i1) e2 l3 (1 : Nat) c4)) = some (TV.v (IN.sv x_1)) ∧
 some (TV.v (IV.int IntKind.i64 (IntKind.wrap IntKind.i64 ((↑(List.length (IN.vars x)) : Int) + (1 : Int))))) = some (TV.v (IV.int IntKind.i64 (↑(List.length (IN.vars x_1)) : Int))) ∧
 some
 [IV.int IntKind.i64 (IN.v x), IV.int IntKind.i64 (IN.op x), IV.int IntKind.i64 (IN.im x), IV.int IntKind.i64 (IN.iv x),
 IV.vslice none (0 : Nat) (List.length (IN.ks x)) (5 : Nat) (cTs (IN.ks x))] =
 some
 [IV.int IntKind.i64 (IN.v x_1), IV.int IntKind.i64 (IN.op x_1), IV.int IntKind.i64 (IN.im x_1), IV.int IntKind.i64 (IN.iv x_1),
 IV.vslice none (0 : Nat) (List.length (IN.ks x_1)) (5 : Nat) (cTs (IN.ks x_1))] ∧
 g5 = IN.g x_1 ∧
 (IB x_1 ∧ IV1 (IN.x x_1) (IN.vars x_1) ∧ SVH x_1 ∧ valB (IN.t x_1) (6 : Int) (6 : Int) = true) ∧ (6 : Nat) - List.length (IN.vars x_1) < (6 : Nat) - List.length (IN.vars x))
 (appGS (IN.g x) (1 : Nat) (8 : Nat) (IN.sv x) (1 : Nat) [IV.int IntKind.i64 (n0 % (↑(List.length (IN.x x)) : Int))] fun (i6 e7 l8 : Nat) (c9 : List IV) (g10 : Heap) =>
 ∃ (x_1 : IN),
 some (TV.v (IV.vslice none (0 : Nat) (List.length hh) (1 : Nat) (List.map (IV.int IntKind.i64) hh))) =
 some (TV.v (IV.vslice none (0 : Nat) (List.length hh) (1 : Nat) (List.map (IV.int IntKind.i64) hh))) ∧
 some (TV.v (IV.vslice none (0 : Nat) (List.length (IN.x x)) (3 : Nat) (List.flatMap cN (IN.x x)))) =
 some (TV.v (IV.vslice none (0 : Nat) (List.length (IN.x x_1)) (3 : Nat) (List.flatMap cN (IN.x x_1)))) ∧
 some (TV.l (8 : Nat) (0 : Nat)) = some (TV.l (8 : Nat) (0 : Nat)) ∧
 some (TV.v (IV.vslice (some i6) e7 l8 (1 : Nat) c9)) = some (TV.v (IN.sv x_1)) ∧
 some (TV.v (IV.int IntKind.i64 (IntKind.wrap IntKind.i64 ((↑(List.length (IN.vars x)) : Int) + (1 : Int))))) = some (TV.v (IV.int IntKind.i64 (↑(List.length (IN.vars x_1)) : Int))) ∧
 some
 [IV.int IntKind.i64 (IN.v x), IV.int IntKind.i64 (IN.op x), IV.int IntKind.i64 (IN.im x), IV.int IntKind.i64 (IN.iv x),
 IV.vslice none (0 : Nat) (List.length (IN.ks x)) (5 : Nat) (cTs (IN.ks x))] =
 some
 [IV.int IntKind.i64 (IN.v x_1), IV.int IntKind.i64 (IN.op x_1), IV.int IntKind.i64 (IN.im x_1), IV.int IntKind.i64 (IN.iv x_1),
 IV.vslice none (0 : Nat) (List.length (IN.ks x_1)) (5 : Nat) (cTs (IN.ks x_1))] ∧
 g10 = IN.g x_1 ∧
 (IB x_1 ∧ IV1 (IN.x x_1) (IN.vars x_1) ∧ SVH x_1 ∧ valB (IN.t x_1) (6 : Int) (6 : Int) = true) ∧ (6 : Nat) - List.length (IN.vars x_1) < (6 : Nat) - List.length (IN.vars x))))
 (((0 : Int) < (↑(List.length (IN.x x)) : Int) ∧ (↑(List.length (IN.x x)) : Int) < (4611686018427387904 : Int)) ∧
 ∃ (l : List Nd),
 (List.length (IN.x x) = List.length l ∧ List.flatMap cN (IN.x x) = List.flatMap cN l) ∧
 ((∀ (x : Nd), x ∈ l → List.length (Nd.ks x) ≤ (1000000 : Nat) ∧ Nd.op x ≠ (25 : Int) ∧ Nd.op x ≠ (30 : Int) ∧ Nd.op x ≠ (31 : Int)) ∧
 List.length l ≤ (1000000 : Nat) ∧
 (0 : Int) ≤ (↑(List.length (IN.vars x)) : Int) % (↑(List.length (IN.x x)) : Int) ∧ (↑(List.length (IN.vars x)) : Int) % (↑(List.length (IN.x x)) : Int) < (↑(List.length l) : Int)) ∧
 brS (List.getD (sortsA l) (Int.toNat ((↑(List.length (IN.vars x)) : Int) % (↑(List.length (IN.x x)) : Int))) (0 : Int) != (1 : Int))
 (appGS (IN.g x) (1 : Nat) (8 : Nat) (IN.sv x) (1 : Nat) [IV.int IntKind.i64 (0 : Int)] fun (i11 e12 l13 : Nat) (c14 : List IV) (g15 : Heap) =>
 ∃ (x_1 : IN),
 some (TV.v (IV.vslice none (0 : Nat) (List.length hh) (1 : Nat) (List.map (IV.int IntKind.i64) hh))) =
 some (TV.v (IV.vslice none (0 : Nat) (List.length hh) (1 : Nat) (List.map (IV.int IntKind.i64) hh))) ∧
 some (TV.v (IV.vslice none (0 : Nat) (List.length (IN.x x)) (3 : Nat) (List.flatMap cN (IN.x x)))) =
 some (TV.v (IV.vslice none (0 : Nat) (List.length (IN.x x_1)) (3 : Nat) (List.flatMap cN (IN.x x_1)))) ∧
 some (TV.l (8 : Nat) (0 : Nat)) = some (TV.l (8 : Nat) (0 : Nat)) ∧
 some (TV.v (IV.vslice (some i11) e12 l13 (1 : Nat) c14)) = some (TV.v (IN.sv x_1)) ∧
 some (TV.v (IV.int IntKind.i64 (IntKind.wrap IntKind.i64 ((↑(List.length (IN.vars x)) : Int) + (1 : Int))))) = some (TV.v (IV.int IntKind.i64 (↑(List.length (IN.vars x_1)) : Int))) ∧
 some
 [IV.int IntKind.i64 (IN.v x), IV.int IntKind.i64 (IN.op x), IV.int IntKind.i64 (IN.im x), IV.int IntKind.i64 (IN.iv x),
 IV.vslice none (0 : Nat) (List.length (IN.ks x)) (5 : Nat) (cTs (IN.ks x))] =
 some
 [IV.int IntKind.i64 (IN.v x_1), IV.int IntKind.i64 (IN.op x_1), IV.int IntKind.i64 (IN.im x_1), IV.int IntKind.i64 (IN.iv x_1),
 IV.vslice none (0 : Nat) (List.length (IN.ks x_1)) (5 : Nat) (cTs (IN.ks x_1))] ∧
 g15 = IN.g x_1 ∧ (IB x_1 ∧ IV1 (IN.x x_1) (IN.vars x_1) ∧ SVH x_1 ∧ valB (IN.t x_1) (6 : Int) (6 : Int) = true) ∧ (6 : Nat) - List.length (IN.vars x_1) < (6 : Nat) - List.length (IN.vars x))
 (appGS (IN.g x) (1 : Nat) (8 : Nat) (IN.sv x) (1 : Nat) [IV.int IntKind.i64 ((↑(List.length (IN.vars x)) : Int) % (↑(List.length (IN.x x)) : Int))] fun (i16 e17 l18 : Nat) (c19 : List IV) (g20 : Heap) =>
 ∃ (x_1 : IN),
 some (TV.v (IV.vslice none (0 : Nat) (List.length hh) (1 : Nat) (List.map (IV.int IntKind.i64) hh))) =
 some (TV.v (IV.vslice none (0 : Nat) (List.length hh) (1 : Nat) (List.map (IV.int IntKind.i64) hh))) ∧
 some (TV.v (IV.vslice none (0 : Nat) (List.length (IN.x x)) (3 : Nat) (List.flatMap cN (IN.x x)))) =
 some (TV.v (IV.vslice none (0 : Nat) (List.length (IN.x x_1)) (3 : Nat) (List.flatMap cN (IN.x x_1)))) ∧
 some (TV.l (8 : Nat) (0 : Nat)) = some (TV.l (8 : Nat) (0 : Nat)) ∧
 some (TV.v (IV.vslice (some i16) e17 l18 (1 : Nat) c19)) = some (TV.v (IN.sv x_1)) ∧
 some (TV.v (IV.int IntKind.i64 (IntKind.wrap IntKind.i64 ((↑(List.length (IN.vars x)) : Int) + (1 : Int))))) = some (TV.v (IV.int IntKind.i64 (↑(List.length (IN.vars x_1)) : Int))) ∧
 some
 [IV.int IntKind.i64 (IN.v x), IV.int IntKind.i64 (IN.op x), IV.int IntKind.i64 (IN.im x), IV.int IntKind.i64 (IN.iv x),
 IV.vslice none (0 : Nat) (List.length (IN.ks x)) (5 : Nat) (cTs (IN.ks x))] =
 some
 [IV.int IntKind.i64 (IN.v x_1), IV.int IntKind.i64 (IN.op x_1), IV.int IntKind.i64 (IN.im x_1), IV.int IntKind.i64 (IN.iv x_1),
 IV.vslice none (0 : Nat) (List.length (IN.ks x_1)) (5 : Nat) (cTs (IN.ks x_1))] ∧
 g20 = IN.g x_1 ∧ (IB x_1 ∧ IV1 (IN.x x_1) (IN.vars x_1) ∧ SVH x_1 ∧ valB (IN.t x_1) (6 : Int) (6 : Int) = true) ∧ (6 : Nat) - List.length (IN.vars x_1) < (6 : Nat) - List.length (IN.vars x))))
 (∃ (x_1 : IN),
 some (TV.v (IV.vslice none (0 : Nat) (List.length (IN.x x)) (3 : Nat) (List.flatMap cN (IN.x x)))) = some (TV.v (IV.vslice none (0 : Nat) (List.length (IN.x x_1)) (3 : Nat) (List.flatMap cN (IN.x x_1)))) ∧
 some (TV.l (8 : Nat) (0 : Nat)) = some (TV.l (8 : Nat) (0 : Nat)) ∧
 some (TV.v (IN.sv x)) = some (TV.v (IV.vslice (IN.io x_1) (IN.e x_1) (List.length (IN.vars x_1)) (1 : Nat) (List.map (IV.int IntKind.i64) (IN.vars x_1)))) ∧
 some [IV.int IntKind.i64 (IN.v x), IV.int IntKind.i64 (IN.op x), IV.int IntKind.i64 (IN.im x), IV.int IntKind.i64 (IN.iv x), IV.vslice none (0 : Nat) (List.length (IN.ks x)) (5 : Nat) (cTs (IN.ks x))] =
 some
 [IV.int IntKind.i64 (IN.v x_1), IV.int IntKind.i64 (IN.op x_1), IV.int IntKind.i64 (IN.im x_1), IV.int IntKind.i64 (IN.iv x_1),
 IV.vslice none (0 : Nat) (List.length (IN.ks x_1)) (5 : Nat) (cTs (IN.ks x_1))] ∧
 IN.g x = IN.g x_1 ∧ (IC x_1 ∧ IV1 (IN.x x_1) (IN.vars x_1) ∧ valB (IN.t x_1) (6 : Int) (6 : Int) = true) ∧ True)) ∧
 (∀ (x : IN) (b : FF),
 IC x ∧ IV1 (IN.x x) (IN.vars x) ∧ valB (IN.t x) (6 : Int) (6 : Int) = true →
 ∃ (l : List Nd),
 ∃ (ks : List T),
 ∃ (vars : List Int),
 ∃ (imms : List Int),
 (List.length (IN.x x) = List.length l ∧ List.flatMap cN (IN.x x) = List.flatMap cN l) ∧
 (List.length (IN.ks x) = List.length ks ∧ cTs (IN.ks x) = cTs ks) ∧
 (List.length (IN.vars x) = List.length vars ∧ List.map (IV.int IntKind.i64) (IN.vars x) = List.map (IV.int IntKind.i64) vars) ∧
 ((6 : Nat) = List.length imms ∧
 [IV.int IntKind.i64 (0 : Int), IV.int IntKind.i64 (0 : Int), IV.int IntKind.i64 (0 : Int), IV.int IntKind.i64 (0 : Int), IV.int IntKind.i64 (0 : Int), IV.int IntKind.i64 (0 : Int)] =
 List.map (IV.int IntKind.i64) imms) ∧
 ((l ≠ [] ∧ (∀ (x : Nd), x ∈ l → okN x) ∧ List.length l ≤ (1000000 : Nat) ∧ ∀ (x : Nd), x ∈ l → List.length (Nd.ks x) ≤ (1000000 : Nat)) ∧
 (T.ok (T.mk (IN.v x) (IN.op x) (IN.im x) (IN.iv x) ks) ∧ T.num (T.mk (IN.v x) (IN.op x) (IN.im x) (IN.iv x) ks) ≤ (1000000 : Nat)) ∧
 ((∀ (x : Int), x ∈ vars → i64b x) ∧ List.length vars ≤ (1000 : Nat)) ∧ (∀ (x : Int), x ∈ imms → i64b x) ∧ List.length imms ≤ (1000 : Nat)) ∧
 ∃ (x_1 : IN),
 some
 (TV.v
 (IV.vslice none (0 : Nat) (List.length (Prod.fst (instB l (T.mk (IN.v x) (IN.op x) (IN.im x) (IN.iv x) ks) vars imms))) (3 : Nat)
 (List.flatMap cN (Prod.fst (instB l (T.mk (IN.v x) (IN.op x) (IN.im x) (IN.iv x) ks) vars imms))))) =
 some (TV.v (IV.vslice none (0 : Nat) (List.length (IN.y x_1)) (3 : Nat) (List.flatMap cN (IN.y x_1)))) ∧
 some (TV.v (IV.int IntKind.i64 (Prod.snd (instB l (T.mk (IN.v x) (IN.op x) (IN.im x) (IN.iv x) ks) vars imms)))) = some (TV.v (IV.int IntKind.i64 (IN.j x_1))) ∧
 Heap.push (IN.g x) (IObj.tip (6 : Nat)) = IN.g x_1 ∧ (IC x_1 ∧ IV1 (IN.x x_1) (IN.vars x_1) ∧ valB (IN.t x_1) (6 : Int) (6 : Int) = true) ∧ True) ∧
 (∀ (x : IN) (b : FF),
 IC x ∧ IV1 (IN.x x) (IN.vars x) ∧ valB (IN.t x) (6 : Int) (6 : Int) = true →
 brS (decide (IN.j x < (0 : Int))) (Q (IV.bool false) h)
 (brS (decide (IN.j x ≥ (↑(List.length (IN.y x)) : Int))) (Q (IV.bool false) h)
 (∃ (l : List Nd),
 (List.length (IN.y x) = List.length l ∧ List.flatMap cN (IN.y x) = List.flatMap cN l) ∧
 ((∀ (x : Nd), x ∈ l → List.length (Nd.ks x) ≤ (1000000 : Nat) ∧ Nd.op x ≠ (25 : Int) ∧ Nd.op x ≠ (30 : Int) ∧ Nd.op x ≠ (31 : Int)) ∧ List.length l ≤ (1000000 : Nat)) ∧
 (∃ (x_1 : IN × Nat),
 some (TV.v (IV.vslice none (0 : Nat) (List.length (IN.y x)) (3 : Nat) (List.flatMap cN (IN.y x)))) =
 some (TV.v (IV.vslice none (0 : Nat) (List.length (IN.y (Prod.fst x_1))) (3 : Nat) (List.flatMap cN (IN.y (Prod.fst x_1))))) ∧
 some (TV.v (IV.int IntKind.i64 (IN.j x))) = some (TV.v (IV.int IntKind.i64 (IN.j (Prod.fst x_1)))) ∧
 some (TV.v (IV.vslice none (0 : Nat) (List.length (sortsA l)) (1 : Nat) (List.map (IV.int IntKind.i64) (sortsA l)))) =
 some (TV.v (IV.vslice none (0 : Nat) (List.length (sortsA (IN.y (Prod.fst x_1)))) (1 : Nat) (List.map (IV.int IntKind.i64) (sortsA (IN.y (Prod.fst x_1)))))) ∧
 some (TV.v (IV.int IntKind.i64 (↑(List.length (sortsA l)) : Int))) = some (TV.v (IV.int IntKind.i64 (↑(List.length (IN.y (Prod.fst x_1))) : Int))) ∧
 some (TV.v (IV.int IntKind.i64 (0 : Int))) = some (TV.v (IV.int IntKind.i64 (↑(Prod.snd x_1) : Int))) ∧
 IN.g x = IN.g (Prod.fst x_1) ∧
 ((IC (Prod.fst x_1) ∧ IV1 (IN.x (Prod.fst x_1)) (IN.vars (Prod.fst x_1)) ∧ valB (IN.t (Prod.fst x_1)) (6 : Int) (6 : Int) = true) ∧ Prod.snd x_1 ≤ List.length (IN.y (Prod.fst x_1))) ∧ True) ∧
 ∀ (x : IN × Nat) (b : FF),
 (IC (Prod.fst x) ∧ IV1 (IN.x (Prod.fst x)) (IN.vars (Prod.fst x)) ∧ valB (IN.t (Prod.fst x)) (6 : Int) (6 : Int) = true) ∧ Prod.snd x ≤ List.length (IN.y (Prod.fst x)) →
 brS (decide ((↑(Prod.snd x) : Int) < (↑(List.length (IN.y (Prod.fst x))) : Int)))
 (needS (decide ((0 : Int) ≤ (↑(Prod.snd x) : Int)) && decide ((↑(Prod.snd x) : Int) < (↑(List.length (sortsA (IN.y (Prod.fst x)))) : Int)))
 (ldIS IntKind.i64 (List.map (IV.int IntKind.i64) (sortsA (IN.y (Prod.fst x)))) (Int.toNat (↑(Prod.snd x) : Int) * (1 : Nat)) fun (n21 : Int) =>
 brS (n21 == (0 : Int)) (Q (IV.bool false) h)
 (∃ (x_1 : IN × Nat),
 some (TV.v (IV.vslice none (0 : Nat) (List.length (IN.y (Prod.fst x))) (3 : Nat) (List.flatMap cN (IN.y (Prod.fst x))))) =
 some (TV.v (IV.vslice none (0 : Nat) (List.length (IN.y (Prod.fst x_1))) (3 : Nat) (List.flatMap cN (IN.y (Prod.fst x_1))))) ∧
 some (TV.v (IV.int IntKind.i64 (IN.j (Prod.fst x)))) = some (TV.v (IV.int IntKind.i64 (IN.j (Prod.fst x_1)))) ∧
 some (TV.v (IV.vslice none (0 : Nat) (List.length (sortsA (IN.y (Prod.fst x)))) (1 : Nat) (List.map (IV.int IntKind.i64) (sortsA (IN.y (Prod.fst x)))))) =
 some (TV.v (IV.vslice none (0 : Nat) (List.length (sortsA (IN.y (Prod.fst x_1)))) (1 : Nat) (List.map (IV.int IntKind.i64) (sortsA (IN.y (Prod.fst x_1)))))) ∧
 some (TV.v (IV.int IntKind.i64 (↑(List.length (IN.y (Prod.fst x))) : Int))) = some (TV.v (IV.int IntKind.i64 (↑(List.length (IN.y (Prod.fst x_1))) : Int))) ∧
 some (TV.v (IV.int IntKind.i64 (IntKind.wrap IntKind.i64 ((↑(Prod.snd x) : Int) + (1 : Int))))) = some (TV.v (IV.int IntKind.i64 (↑(Prod.snd x_1) : Int))) ∧
 IN.g (Prod.fst x) = IN.g (Prod.fst x_1) ∧
 ((IC (Prod.fst x_1) ∧ IV1 (IN.x (Prod.fst x_1)) (IN.vars (Prod.fst x_1)) ∧ valB (IN.t (Prod.fst x_1)) (6 : Int) (6 : Int) = true) ∧ Prod.snd x_1 ≤ List.length (IN.y (Prod.fst x_1))) ∧
 List.length (IN.y (Prod.fst x_1)) - Prod.snd x_1 < List.length (IN.y (Prod.fst x)) - Prod.snd x)))
 (∃ (l : List Nd),
 (List.length (IN.y (Prod.fst x)) = List.length l ∧ List.flatMap cN (IN.y (Prod.fst x)) = List.flatMap cN l) ∧
 ((∀ (x : Nd), x ∈ l → List.length (Nd.ks x) ≤ (1000000 : Nat) ∧ Nd.op x ≠ (25 : Int) ∧ Nd.op x ≠ (30 : Int) ∧ Nd.op x ≠ (31 : Int)) ∧
 List.length l ≤ (1000000 : Nat) ∧ (0 : Int) ≤ IN.j (Prod.fst x) ∧ IN.j (Prod.fst x) < (↑(List.length l) : Int)) ∧
 brS (List.getD (sortsA l) (Int.toNat (IN.j (Prod.fst x))) (0 : Int) == (1 : Int)) (Q (IV.bool true) h) (Q (IV.bool false) h))))) ∧
 True)) := by kernel_rfl
set_option maxHeartbeats 2000000 in
theorem sSortL : ∀ xs h Q, kSortL xs h Q → CallW env 8 xs h Q := by
  intro xs h Q hk
  unfold kSortL at hk
  split at hk
  · rename_i e1 n1 c1 e2 n2 c2 e3 n3 c3
    obtain ⟨l, m, hh, ⟨rfl, rfl⟩, ⟨rfl, rfl⟩, ⟨rfl, rfl⟩, hb, hk⟩ := hk
    refine dF_run (okInstL) (vSortL l m hh e1 e2 e3 h Q) ?_
    have tn : ∀ x : Nat, (x : Int).toNat = x := Int.toNat_natCast
    obtain ⟨hb1, hb2, hb3, hb4, hb5, hb6⟩ := hb
    refine needS_intro (by simp only [pureL, pureB, pureL_ints, Bool.and_true]) ⟨?_, ?_, ?_, ?_, ?_, trivial⟩
    · refine ⟨m, ⟨rfl, rfl⟩, ⟨hb2, hb5⟩, fun X hX => brS_intro (fun c => ?_) (fun c => needS_intro (by rw [Nat.ble_eq]; omega) ?_)⟩
      · exact ⟨[0], ⟨rfl, rfl⟩, ⟨rfl, fun x hx => by rw [List.mem_singleton.1 hx]; unfold i64b; omega, by simp⟩, fun v op im iv ks hok hnum hvo => ⟨⟨X, v, op, im, iv, ks, [], none, 1, .nilslice, _⟩, (by first | rfl | exact True.intro), (by first | rfl | exact True.intro), (by first | rfl | exact True.intro), (by first | rfl | exact True.intro), (by first | rfl | exact True.intro), ⟨⟨hX, ⟨hok, hnum, hvo⟩, Nat.zero_le _⟩, rfl⟩, trivial⟩⟩
      · refine ⟨0 :: l, ⟨by rw [List.length_cons, Nat.add_comm], rfl⟩, ⟨rfl, fun x hx => ?_, by rw [List.length_cons]; omega⟩, fun v op im iv ks hok hnum hvo => ⟨⟨X, v, op, im, iv, ks, [], none, 1, .nilslice, _⟩, (by first | rfl | exact True.intro), (by first | rfl | exact True.intro), (by first | rfl | exact True.intro), (by first | rfl | exact True.intro), (by first | rfl | exact True.intro), ⟨⟨hX, ⟨hok, hnum, hvo⟩, Nat.zero_le _⟩, rfl⟩, trivial⟩⟩
        rcases List.mem_cons.1 hx with rfl | hx
        · unfold i64b; omega
        · exact hb1 x hx
    · rintro x _ ⟨hib, hv0⟩
      have hn := hib.2.1.2.1
      have hl := len_nums x.ks
      have e : x.t.num = nums x.ks + 1 := rfl
      have ht : thins x.ks := thins_nums _ (by omega)
      refine ⟨x.ks, ⟨rfl, rfl⟩, ⟨ht, by omega⟩, brS_intro (fun c => ⟨x.ks, ⟨rfl, rfl⟩, ⟨ht, by omega⟩, brS_intro (fun _ => hk) (fun c2 => by rw [c2] at c; cases c)⟩) (fun c => ⟨x, (by first | rfl | exact True.intro), (by first | rfl | exact True.intro), (by first | rfl | exact True.intro), (by first | rfl | exact True.intro), (by first | rfl | exact True.intro), ⟨hib, hv0, by rw [Bool.not_eq_false'] at c; exact c⟩, trivial⟩)⟩
    · rintro x _ ⟨hib, hv0, hv⟩
      refine ⟨⟨⟨x.x, x.v, x.op, x.im, x.iv, x.ks, [], none, 1, .nilslice, x.g⟩, (by first | rfl | exact True.intro), (by first | rfl | exact True.intro), (by first | rfl | exact True.intro), (by first | rfl | exact True.intro), (by first | rfl | exact True.intro), (by first | rfl | exact True.intro), (by first | rfl | exact True.intro), ⟨⟨hib.1, hib.2.1, Nat.zero_le _⟩, fun q hq => (by cases hq), .inl ⟨rfl, rfl⟩, hv⟩, trivial⟩, ?_⟩
      rintro x _ ⟨hib, hix, hsv, hv⟩
      have hxl := hib.1.1
      have hl6 := hib.2.2
      have hcat : ∀ q, isV x.x q → IV1 x.x (x.vars ++ [q]) := fun q hq y hy => by
        rcases List.mem_append.1 hy with hy | hy
        · exact hix y hy
        · rw [List.mem_singleton.1 hy]
          exact hq
      refine brS_intro (fun c => ?_) (fun c => ?_)
      rotate_left
      · rw [decide_eq_false_iff_not] at c
        rcases hsv with ⟨q1, q2⟩ | ⟨id, q1, q2⟩
        · rw [q2] at c
          simp at c
        · rw [q1]
          exact ⟨⟨x.x, x.v, x.op, x.im, x.iv, x.ks, x.vars, some id, x.vars.length, .nilslice, x.g⟩, (by first | rfl | exact True.intro), (by first | rfl | exact True.intro), (by first | rfl | exact True.intro), (by first | rfl | exact True.intro), (by first | rfl | exact True.intro), ⟨⟨hib, hix.ix, by show x.vars.length = 6; omega⟩, hix, hv⟩, trivial⟩
      rw [decide_eq_true_eq] at c
      refine brS_intro (fun c2 => ?_) (fun c2 => ?_)
      · rw [decide_eq_true_eq] at c2
        have hlt : x.vars.length < hh.length := by omega
        refine needS_intro (by simp; omega) (ldI1 hlt (by rw [Nat.mul_one, tn]) ?_)
        have hm1 := Int.emod_nonneg (hh[x.vars.length]) (show (x.x.length : Int) ≠ 0 by omega)
        have hm2 := Int.emod_lt_of_pos (hh[x.vars.length]) (show (0 : Int) < x.x.length by omega)
        refine ⟨⟨by omega, by omega⟩, x.x, ⟨rfl, rfl⟩, ⟨hib.1.sorts, by omega, hm1, hm2⟩, brS_intro (fun c3 => (app_kids hsv (by omega) (fun id h2 hkh hf hfr => ⟨⟨x.x, x.v, x.op, x.im, x.iv, x.ks, x.vars ++ [_], none, 0, .vslice (some id) (x.vars ++ [_]).length (x.vars ++ [_]).length 1 ((x.vars ++ [_]).map (IV.int .i64)), h2⟩, (by first | rfl | exact True.intro), (by first | rfl | exact True.intro), (by first | rfl | exact True.intro), (by first | rfl | exact True.intro), (by rw [IntWalk.i64_in _ (by omega)]; simp), (by first | rfl | exact True.intro), (by first | rfl | exact True.intro), ⟨⟨hib.1, hib.2.1, by simp; omega⟩, hcat _ (hib.1.v0), .inr ⟨id, rfl, hkh⟩, hv⟩, by simp; omega⟩))) (fun c3 => (app_kids hsv (by omega) (fun id h2 hkh hf hfr => ⟨⟨x.x, x.v, x.op, x.im, x.iv, x.ks, x.vars ++ [_], none, 0, .vslice (some id) (x.vars ++ [_]).length (x.vars ++ [_]).length 1 ((x.vars ++ [_]).map (IV.int .i64)), h2⟩, (by first | rfl | exact True.intro), (by first | rfl | exact True.intro), (by first | rfl | exact True.intro), (by first | rfl | exact True.intro), (by rw [IntWalk.i64_in _ (by omega)]; simp), (by first | rfl | exact True.intro), (by first | rfl | exact True.intro), ⟨⟨hib.1, hib.2.1, by simp; omega⟩, hcat _ (⟨hm1, hm2, by simpa using c3⟩), .inr ⟨id, rfl, hkh⟩, hv⟩, by simp; omega⟩)))⟩
      · have hm1 := Int.emod_nonneg ((x.vars.length : Int)) (show (x.x.length : Int) ≠ 0 by omega)
        have hm2 := Int.emod_lt_of_pos ((x.vars.length : Int)) (show (0 : Int) < x.x.length by omega)
        refine ⟨⟨by omega, by omega⟩, x.x, ⟨rfl, rfl⟩, ⟨hib.1.sorts, by omega, hm1, hm2⟩, brS_intro (fun c3 => (app_kids hsv (by omega) (fun id h2 hkh hf hfr => ⟨⟨x.x, x.v, x.op, x.im, x.iv, x.ks, x.vars ++ [_], none, 0, .vslice (some id) (x.vars ++ [_]).length (x.vars ++ [_]).length 1 ((x.vars ++ [_]).map (IV.int .i64)), h2⟩, (by first | rfl | exact True.intro), (by first | rfl | exact True.intro), (by first | rfl | exact True.intro), (by first | rfl | exact True.intro), (by rw [IntWalk.i64_in _ (by omega)]; simp), (by first | rfl | exact True.intro), (by first | rfl | exact True.intro), ⟨⟨hib.1, hib.2.1, by simp; omega⟩, hcat _ (hib.1.v0), .inr ⟨id, rfl, hkh⟩, hv⟩, by simp; omega⟩))) (fun c3 => (app_kids hsv (by omega) (fun id h2 hkh hf hfr => ⟨⟨x.x, x.v, x.op, x.im, x.iv, x.ks, x.vars ++ [_], none, 0, .vslice (some id) (x.vars ++ [_]).length (x.vars ++ [_]).length 1 ((x.vars ++ [_]).map (IV.int .i64)), h2⟩, (by first | rfl | exact True.intro), (by first | rfl | exact True.intro), (by first | rfl | exact True.intro), (by first | rfl | exact True.intro), (by rw [IntWalk.i64_in _ (by omega)]; simp), (by first | rfl | exact True.intro), (by first | rfl | exact True.intro), ⟨⟨hib.1, hib.2.1, by simp; omega⟩, hcat _ (⟨hm1, hm2, by simpa using c3⟩), .inr ⟨id, rfl, hkh⟩, hv⟩, by simp; omega⟩)))⟩
    · rintro x _ ⟨hc, hix, hv⟩
      have hlx := hc.lx
      have hpn := hc.pb.2.1
      have hv6 := hc.v6
      have hkx := hc.kx
      exact ⟨x.x, x.ks, x.vars, Z6, ⟨rfl, rfl⟩, ⟨rfl, rfl⟩, ⟨rfl, rfl⟩, ⟨rfl, rfl⟩, ⟨⟨hc.ne, hc.okx, by omega, hkx⟩, ⟨hc.pb.1, by show x.t.num ≤ 1000000; omega⟩, ⟨hc.vb, by omega⟩, z6_i64, by decide⟩, ⟨⟨x.x, x.v, x.op, x.im, x.iv, x.ks, x.vars, x.io, x.e, .nilslice, _⟩, (by first | rfl | exact True.intro), (by first | rfl | exact True.intro), (by first | rfl | exact True.intro), ⟨hc, hix, hv⟩, trivial⟩⟩
    · rintro x _ ⟨hc, hix, hv⟩
      have hr := hc.rng hv
      have hly := hc.ly
      refine brS_intro (fun c => absurd (of_decide_eq_true c) (by omega)) (fun _ => brS_intro (fun c => absurd (of_decide_eq_true c) (by omega)) (fun _ => ⟨x.y, ⟨rfl, rfl⟩, ⟨hc.nsy hv, by omega⟩, ⟨(x, 0), (by first | rfl | exact True.intro), (by first | rfl | exact True.intro), (by first | rfl | exact True.intro), (by rw [sortsA_len]), (by first | rfl | exact True.intro), (by first | rfl | exact True.intro), ⟨⟨hc, hix, hv⟩, Nat.zero_le _⟩, trivial⟩, ?_⟩))
      rintro ⟨x, i⟩ _ ⟨⟨hc, hix, hv⟩, hi⟩
      dsimp only at hc hix hv hi ⊢
      have hr := hc.rng hv
      have hly := hc.ly
      obtain ⟨hw, hs⟩ := hc.sorts hv hix
      have hsl := sortsA_len x.y
      refine brS_intro (fun c => ?_) (fun _ => ⟨x.y, ⟨rfl, rfl⟩, ⟨hc.nsy hv, by omega, hr.1, hr.2⟩, brS_intro (fun _ => hk) (fun c => absurd hs.2.2 (by simpa using c))⟩)
      rw [decide_eq_true_eq] at c
      have hlt : i < (sortsA x.y).length := by omega
      refine needS_intro (by simp; omega) (ldI1 hlt (by rw [Nat.mul_one, tn]) (brS_intro (fun c => absurd (beq_iff_eq.1 c) (hw _ (List.getElem_mem hlt))) (fun _ => ⟨(x, i + 1), (by first | rfl | exact True.intro), (by first | rfl | exact True.intro), (by first | rfl | exact True.intro), (by first | rfl | exact True.intro), (by rw [IntWalk.i64_in _ (by omega)]; rfl), (by first | rfl | exact True.intro), ⟨⟨hc, hix, hv⟩, by dsimp only; omega⟩, by dsimp only; omega⟩)))
  · exact hk.elim
def cSortL := addC 8 kSortL cInstL
theorem okSortL : Sound env cSortL := sound_add sSortL (okInstL)

end Go.Proofs.Ytmfnadojephcpaa
