import Derived.Test.YtgfllfgdojiioaaGreatJ14s
import Derived.Test.YtgfllfgdojiioaaGreatP14
import Derived.KernelRfl
set_option linter.unusedVariables false
set_option linter.unusedSimpArgs false
namespace Go.Proofs.YtgfllfgdojiioaaGreat
open Go.Pv Go.M13 Go.M15 Go.M10 Go.M14
def kArgs (xs : List IV) (h : Heap) (K : IV -> Heap -> Prop) : Prop := match xs with
 | [.int .i64 a, .int .i64 b, .int .i64 w] => i64b w /\ ∀ x y : Int, i64b x -> i64b y -> K (.vslice none 0 2 1 [.int .i64 x, .int .i64 y]) h
 | _ => False
set_option maxRecDepth 100000 in
theorem vArgs (a b w : Int) (h : Heap) (Q : IV -> Heap -> Prop) : dF (stdS cIntv) env 7 noU noI noI [.int .i64 a, .int .i64 b, .int .i64 w] h Q = (
 i64b w /\ ∀ (w_1 : Int), i64b w_1 -> i64b w /\ ∀ (w : Int), i64b w -> Q (.vslice none 0 2 1 [IV.int .i64 w_1, IV.int .i64 w]) h) := by kernel_rfl
theorem sArgs : ∀ xs h Q, kArgs xs h Q -> CallW env 7 xs h Q := by
 intro xs h Q hk
 unfold kArgs at hk
 split at hk
 ·rename_i a b w
  obtain ⟨hw, hk⟩ := hk
  refine dF_run (okIntv) (vArgs a b w h Q) ?_
  exact ⟨hw, fun x hx => ⟨hw, fun y hy => hk x y hx hy⟩⟩
 ·exact hk.elim
def cArgs := addC 7 kArgs cIntv
theorem okArgs : Sound env cArgs := sound_add sArgs (okIntv)
def dpA (l : List Nd) (j : Nat) : Inv' := atX (Nat × Heap × Nat × List Bool) (fun x => [(0, .v (.vslice none 0 (l).length 3 ((l).flatMap cN))), (1, .v (.int .i64 (j : Int))), (5, .v (.hslice x.2.2.1 0 (j + 1) 1)), (6, .v (.int .i64 ((x.1 : Int) - 1)))]) (fun _ => []) (fun x => x.2.1) (fun x => MKe l j x.1 x.2.2.2 /\ BHd x.2.1 x.2.2.1 x.2.2.2) (fun x => x.1)
def dpB (l : List Nd) (j : Nat) : Inv' := atX (Nat × Heap × Nat × List Bool × Nat) (fun x => [(0, .v (.vslice none 0 (l).length 3 ((l).flatMap cN))), (1, .v (.int .i64 (j : Int))), (5, .v (.hslice x.2.2.1 0 (j + 1) 1)), (6, .v (.int .i64 (x.1 : Int))), (7, .v (.int .i64 (x.2.2.2.2 : Int)))]) (fun _ => []) (fun x => x.2.1) (fun x => MKe l j (x.1 + 1) x.2.2.2.1 /\ BHd x.2.1 x.2.2.1 x.2.2.2.1 /\ (x.2.2.2.2 <= (l.getD x.1 default).ks.length /\ ∀ q, q < x.2.2.2.2 -> ∀ k, (l.getD x.1 default).ks[q]? = some k -> x.2.2.2.1[k.toNat]? = some true)) (fun x => x.1 * 100 + ((l.getD x.1 default).ks.length - x.2.2.2.2))
def dpC (l : List Nd) (j : Nat) : Inv' := .or
 (atX (Nat × Heap × Nat × List Bool) (fun x => [(1, .v (.int .i64 (j : Int))), (5, .v (.hslice x.2.2.1 0 (j + 1) 1)), (8, .v .nilslice), (9, .v (.int .i64 (x.1 : Int)))]) (fun _ => []) (fun x => x.2.1) (fun x => (x.1 <= j + 1 /\ sel x.2.2.2 x.1 = []) /\ BHd x.2.1 x.2.2.1 x.2.2.2 /\ MKe l j 0 x.2.2.2) (fun x => j + 1 - x.1))
 (atX (Nat × Heap × Nat × List Bool × Nat) (fun x => [(1, .v (.int .i64 (j : Int))), (5, .v (.hslice x.2.2.1 0 (j + 1) 1)), (8, .v (.vslice (some x.2.2.2.2) (sel x.2.2.2.1 x.1).length (sel x.2.2.2.1 x.1).length 1 ((sel x.2.2.2.1 x.1).map (IV.int .i64)))), (9, .v (.int .i64 (x.1 : Int)))]) (fun _ => []) (fun x => x.2.1) (fun x => (x.1 <= j + 1 /\ BHd x.2.1 x.2.2.1 x.2.2.2.1 /\ MKe l j 0 x.2.2.2.1) /\ x.2.1.get x.2.2.2.2 = .tip (sel x.2.2.2.1 x.1).length /\ x.2.2.2.2 ≠ x.2.2.1) (fun x => j + 1 - x.1))
def kDepe (xs : List IV) (h : Heap) (K : IV -> Heap -> Prop) : Prop := match xs with
 | [.vslice none e1 n1 3 c1, .int .i64 i] => ∃ (l : List Nd) (j : Nat), (n1 = l.length /\ c1 = l.flatMap cN /\ i = (j : Int)) /\ (WG l /\ j < l.length) /\ ∀ c : List Int, DepOk l j c -> K (.vslice none 0 (c).length 1 ((c).map (IV.int .i64))) h
 | _ => False
noncomputable def z20a (j : Nat) := TV.v (.int .i64 (↑j : Int))
noncomputable def z20b (l : List Nd) := TV.v (.vslice none 0 l.length 3 (List.flatMap cN l))
noncomputable def z20i (j : Nat) := (↑j : Int) + 1
noncomputable def z20c (j : Nat) := Int.toNat (IntKind.wrap .i64 (z20i j))
noncomputable def z20d (j : Nat) := j + 1
noncomputable def z20e  := IV.int .i64
noncomputable def z20f  := TV.v IV.nilslice
noncomputable abbrev z20g (l : List Nd) (j : Nat) (x_2 : Nat × Heap × Nat × List Bool) := MKe l j x_2.1 x_2.2.2.2 /\ BHd x_2.2.1 x_2.2.2.1 x_2.2.2.2
noncomputable def z20h  := TV.v (.int .i64 0)
set_option maxRecDepth 100000 in
theorem vDepe (l : List Nd) (j : Nat) (e1 : Nat) (h : Heap) (Q : IV -> Heap -> Prop) : dF (stdS cArgs) env 20 noU (icA 7 (dpA l j) (icA 1000010 (dpB l j) (ic1 15 (dpC l j)))) noI [.vslice none e1 (l).length 3 ((l).flatMap cN), .int .i64 (j : Int)] h Q = (
 needS (pureL [IV.vslice none 0 l.length 3 (List.flatMap cN l), IV.int .i64 (↑j : Int)]) (∃ (l_1 : List Nd), (l.length = l_1.length /\ List.flatMap cN l = List.flatMap cN l_1) /\ ((∀ (x : Nd), x ∈ l_1 -> List.length (Nd.ks x) <= 1000000 /\ Nd.op x ≠ 25
 /\ Nd.op x ≠ 30 /\ Nd.op x ≠ 31) /\ l_1.length <= 1000000 /\ 0 <= (↑j : Int) /\ (↑j : Int) < (↑l_1.length : Int)) /\ brS (List.getD (sortsA l_1) (Int.toNat (↑j : Int)) 0 == 0) (Q (.vslice none 0 0 1 []) h) (needS (decide ((0
 : Int) <= IntKind.wrap .i64 (z20i j)) && (decide (IntKind.wrap .i64 (z20i j) <= IntKind.wrap .i64 (z20i j)) && (decide (IntKind.wrap .i64 (z20i j) <= 9223372036854775807) && decide ((1 : Int) * IntKind.wrap .i64 (z20i j) <= 140737488355328)))) (needS (decide
 (0 <= (↑j : Int)) && decide ((↑j : Int) < (↑(z20c j) : Int))) (needS (Nat.ble ((0 : Nat) + Int.toNat (↑j : Int) * 1 + (1 : Nat)) (List.length (repl (z20c j) [IV.bool false]))) ((∃ (x : Nat × Heap × Nat × List Bool), some (z20b l) = some (z20b l) /\ some (z20a j) = some (z20a j) /\ some (TV.v
 (IV.hslice 0 0 (z20c j) 1)) = some (TV.v (.hslice x.2.2.1 0 (z20d j) 1)) /\ some (z20a j) = some (TV.v (.int .i64 ((↑x.1 : Int) - 1))) /\ Heap.mk (PT.node PT.nil (some (IObj.cells (List.take ((0 : Nat) + Int.toNat
 (↑j : Int) * 1) (repl (z20c j) [IV.bool false]) ++ [IV.bool true] ++ List.drop ((0 : Nat) + Int.toNat (↑j : Int) * 1 + (1 : Nat)) (repl (z20c j) [IV.bool false])))) PT.nil) ((0 : Nat) + 1) = x.2.1 /\ (MKe l j x.1 x.2.2.2 /\ BHd
 x.2.1 x.2.2.1 x.2.2.2) /\ True) /\ ∀ (x : Nat × Heap × Nat × List Bool) (b : FF), MKe l j x.1 x.2.2.2 /\ BHd x.2.1 x.2.2.1 (Prod.snd (Prod.snd (Prod.snd
 x))) -> brS (decide ((↑x.1 : Int) - 1 >= (0 : Int))) (∃ (M : Nat), (∃ (x_1 : Nat × Heap × Nat × List Bool × Nat), some (z20b l) = some (z20b l) /\ some (z20a j) = some (z20a j) /\ some (TV.v (.hslice x.2.2.1 0 (z20d j) 1)) = some (TV.v (.hslice
 x_1.2.2.1 (0 : Nat) (z20d j) (1 : Nat))) /\ some (TV.v (.int .i64 ((↑x.1 : Int) - 1))) = some (TV.v (.int .i64 (↑x_1.1 : Int))) /\ some z20h = some (TV.v (.int .i64 (↑x_1.2.2.2.2 : Int)))
 /\ x.2.1 = x_1.2.1 /\ (MKe l j (x_1.1 + 1) x_1.2.2.2.1 /\ BHd x_1.2.1 x_1.2.2.1 x_1.2.2.2.1 /\ x_1.2.2.2.2
 <= List.length (Nd.ks (List.getD l x_1.1 default)) /\ ∀ (q : Nat), q < x_1.2.2.2.2 -> ∀ (k : Int), (Nd.ks (List.getD l x_1.1 default))[q]? = some k -> x_1.2.2.2.1[k.toNat]? = some true) /\ x_1.1 * 100
 + (List.length (Nd.ks (List.getD l x_1.1 default)) - x_1.2.2.2.2) <= M) /\ ∀ (x_1 : Nat × Heap × Nat × List Bool × Nat) (b : FF), (MKe l j (x_1.1 + 1) x_1.2.2.2.1 /\ BHd x_1.2.1 (Prod.fst (Prod.snd
 x_1.2)) x_1.2.2.2.1 /\ x_1.2.2.2.2 <= List.length (Nd.ks (List.getD l x_1.1 default)) /\ ∀ (q : Nat), q < x_1.2.2.2.2 -> ∀ (k : Int), (Nd.ks (List.getD l x_1.1 default))[q]?
 = some k -> x_1.2.2.2.1[k.toNat]? = some true) -> x_1.1 * 100 + (List.length (Nd.ks (List.getD l x_1.1 default)) - x_1.2.2.2.2) <= M -> needS (decide (0 <= (↑x_1.1 : Int)) && decide ((↑(Prod.fst
 x_1) : Int) < (↑l.length : Int))) (ldVS 1 (List.flatMap cN l) (Int.toNat (↑x_1.1 : Int) * 3 + (2 : Nat)) fun (i0 : Option Nat) (e1 l2 : Nat) (c3 : List IV) => brS (decide ((↑x_1.2.2.2.2 : Int) < (↑l2 : Int))) (needS (decide ((0 : Int)
 <= (↑x_1.1 : Int)) && decide ((↑x_1.1 : Int) < (↑(z20d j) : Int))) (hgetS x_1.2.1 x_1.2.2.1 fun r4 => ldBS r4 ((0 : Nat) + Int.toNat (↑x_1.1 : Int) * 1) fun b5 => brS b5 (needS (decide (0 <= (↑(Prod.fst
 x_1) : Int)) && decide ((↑x_1.1 : Int) < (↑l.length : Int))) (ldVS 1 (List.flatMap cN l) (Int.toNat (↑x_1.1 : Int) * 3 + (2 : Nat)) fun (i6 : Option Nat) (e7 l8 : Nat) (c9 : List IV) => needS (decide (0 <= (↑x_1.2.2.2.2
 : Int)) && decide ((↑x_1.2.2.2.2 : Int) < (↑l8 : Int))) (ldIS .i64 c9 (Int.toNat (↑x_1.2.2.2.2 : Int) * 1) fun n10 => needS (decide (0 <= n10) && decide (n10 < (↑(z20d j) : Int))) (hgetS (Prod.fst (Prod.snd
 x_1)) x_1.2.2.1 fun r11 => needS (Nat.ble ((0 : Nat) + n10.toNat * 1 + (1 : Nat)) r11.length) (∃ (x : Nat × Heap × Nat × List Bool × Nat), some (z20b l) = some (z20b l) /\ some (z20a j) = some (z20a j) /\ some (TV.v (.hslice (Prod.fst (Prod.snd
 x_1.2)) 0 (z20d j) 1)) = some (TV.v (.hslice x.2.2.1 0 (z20d j) 1)) /\ some (TV.v (.int .i64 (↑x_1.1 : Int))) = some (TV.v (.int .i64 (↑x.1 : Int))) /\ some (TV.v (.int .i64 (IntKind.wrap
 .i64 ((↑x_1.2.2.2.2 : Int) + 1)))) = some (TV.v (.int .i64 (↑x.2.2.2.2 : Int))) /\ Heap.set x_1.2.1 x_1.2.2.1 (IObj.cells (List.take ((0 : Nat) + n10.toNat *
 (1 : Nat)) r11 ++ [IV.bool true] ++ List.drop ((0 : Nat) + n10.toNat * 1 + (1 : Nat)) r11)) = x.2.1 /\ (MKe l j (x.1 + 1) x.2.2.2.1 /\ BHd x.2.1 x.2.2.1 (Prod.fst (Prod.snd (Prod.snd
 x.2))) /\ x.2.2.2.2 <= List.length (Nd.ks (List.getD l x.1 default)) /\ ∀ (q : Nat), q < x.2.2.2.2 -> ∀ (k : Int), (Nd.ks (List.getD l x.1 default))[q]? = some k -> x.2.2.2.1[Int.toNat
 k]? = some true) /\ x.1 * 100 + (List.length (Nd.ks (List.getD l x.1 default)) - x.2.2.2.2) < x_1.1 * 100 + (List.length (Nd.ks (List.getD l x_1.1 default)) - x_1.2.2.2.2)))))) (∃ (x_2 :
 Nat × Heap × Nat × List Bool), some (z20b l) = some (z20b l) /\ some (z20a j) = some (z20a j) /\ some (TV.v (.hslice x_1.2.2.1 0 (z20d j) 1)) = some (TV.v (.hslice x_2.2.2.1 0 (z20d j) 1)) /\ some (TV.v (.int .i64
 (IntKind.wrap .i64 ((↑x_1.1 : Int) - 1)))) = some (TV.v (.int .i64 ((↑x_2.1 : Int) - 1))) /\ x_1.2.1 = x_2.2.1 /\ (z20g l j x_2) /\ x_2.1 < x.1))) (∃ (x_2 : Nat × Heap × Nat × List Bool), some (z20b l) = some
 (z20b l) /\ some (z20a j) = some (z20a j) /\ some (TV.v (.hslice x_1.2.2.1 0 (z20d j) 1)) = some (TV.v (.hslice x_2.2.2.1 0 (z20d j) 1)) /\ some (TV.v (.int .i64 (IntKind.wrap .i64 ((↑x_1.1
 : Int) - 1)))) = some (TV.v (.int .i64 ((↑x_2.1 : Int) - 1))) /\ x_1.2.1 = x_2.2.1 /\ (z20g l j x_2) /\ x_2.1 < x.1))) (((∃ (x_1 : Nat × Heap × Nat × List Bool), some (z20a j) = some (z20a j) /\ some (TV.v (.hslice (Prod.fst
 x.2.2) 0 (z20d j) 1)) = some (TV.v (.hslice x_1.2.2.1 0 (z20d j) 1)) /\ some z20f = some z20f /\ some z20h = some (TV.v (.int .i64 (↑x_1.1 : Int))) /\ x.2.1 = x_1.2.1 /\ ((Prod.fst
 x_1 <= j + 1 /\ sel x_1.2.2.2 x_1.1 = []) /\ BHd x_1.2.1 x_1.2.2.1 x_1.2.2.2 /\ MKe l j (0 : Nat) x_1.2.2.2) /\ True) \/ ∃ (x_1 : Nat × Heap × Nat × List Bool × Nat),
 some (z20a j) = some (z20a j) /\ some (TV.v (.hslice x.2.2.1 0 (z20d j) 1)) = some (TV.v (.hslice x_1.2.2.1 0 (z20d j) 1)) /\ some z20f = some (TV.v (.vslice (some x_1.2.2.2.2)
 (List.length (sel x_1.2.2.2.1 x_1.1)) (List.length (sel x_1.2.2.2.1 x_1.1)) 1 (List.map z20e (sel x_1.2.2.2.1 x_1.1)))) /\ some z20h = some (TV.v (.int .i64
 (↑x_1.1 : Int))) /\ x.2.1 = x_1.2.1 /\ ((x_1.1 <= j + 1 /\ BHd x_1.2.1 x_1.2.2.1 x_1.2.2.2.1 /\ MKe l j (0 : Nat) x_1.2.2.2.1) /\ Heap.get
 x_1.2.1 x_1.2.2.2.2 = IObj.tip (List.length (sel x_1.2.2.2.1 x_1.1)) /\ x_1.2.2.2.2 ≠ x_1.2.2.1) /\ True) /\ (∀ (x : Nat × Heap × Nat × List Bool)
 (b : FF), (x.1 <= j + 1 /\ sel x.2.2.2 x.1 = []) /\ BHd x.2.1 x.2.2.1 x.2.2.2 /\ MKe l j (0 : Nat) x.2.2.2 -> brS (decide ((↑x.1 : Int) <= (↑j : Int)))
 (needS (decide (0 <= (↑x.1 : Int)) && decide ((↑x.1 : Int) < (↑(z20d j) : Int))) (hgetS x.2.1 x.2.2.1 fun r12 => ldBS r12 ((0 : Nat) + Int.toNat (↑x.1 : Int) * 1) fun b13 => brS b13 ((∃ (x_1 :
 Nat × Heap × Nat × List Bool), some (z20a j) = some (z20a j) /\ some (TV.v (.hslice x.2.2.1 0 (z20d j) 1)) = some (TV.v (.hslice x_1.2.2.1 0 (z20d j) 1)) /\ some (TV.v (.vslice (some (Heap.next (Prod.fst (Prod.snd
 x)))) 1 1 1 [IV.int .i64 (↑x.1 : Int)])) = some z20f /\ some (TV.v (.int .i64 (IntKind.wrap .i64 ((↑x.1 : Int) + 1)))) = some (TV.v (.int .i64 (↑x_1.1 : Int))) /\ Heap.push x.2.1 (IObj.tip (1 :
 Nat)) = x_1.2.1 /\ ((x_1.1 <= j + 1 /\ sel x_1.2.2.2 x_1.1 = []) /\ BHd x_1.2.1 x_1.2.2.1 x_1.2.2.2 /\ MKe l j (0 : Nat) x_1.2.2.2) /\ j + (1
 : Nat) - x_1.1 < j + 1 - x.1) \/ ∃ (x_1 : Nat × Heap × Nat × List Bool × Nat), some (z20a j) = some (z20a j) /\ some (TV.v (.hslice x.2.2.1 0 (z20d j) 1)) = some (TV.v (.hslice x_1.2.2.1 0 (z20d j) (1
 : Nat))) /\ some (TV.v (.vslice (some (Heap.next x.2.1)) 1 1 1 [IV.int .i64 (↑x.1 : Int)])) = some (TV.v (.vslice (some x_1.2.2.2.2) (List.length (sel x_1.2.2.2.1 (Prod.fst
 x_1))) (List.length (sel x_1.2.2.2.1 x_1.1)) 1 (List.map z20e (sel x_1.2.2.2.1 x_1.1)))) /\ some (TV.v (.int .i64 (IntKind.wrap .i64 ((↑x.1 : Int) + 1)))) = some (TV.v (.int
 .i64 (↑x_1.1 : Int))) /\ Heap.push x.2.1 (IObj.tip (1 : Nat)) = x_1.2.1 /\ ((x_1.1 <= j + 1 /\ BHd x_1.2.1 x_1.2.2.1 x_1.2.2.2.1 /\ MKe l j (0 : Nat) (Prod.fst
 x_1.2.2.2)) /\ Heap.get x_1.2.1 x_1.2.2.2.2 = IObj.tip (List.length (sel x_1.2.2.2.1 x_1.1)) /\ x_1.2.2.2.2 ≠ x_1.2.2.1)
 /\ j + 1 - x_1.1 < j + 1 - x.1) ((∃ (x_1 : Nat × Heap × Nat × List Bool), some (z20a j) = some (z20a j) /\ some (TV.v (.hslice x.2.2.1 0 (z20d j) 1)) = some (TV.v (.hslice x_1.2.2.1 0 (z20d j)
 1)) /\ some z20f = some z20f /\ some (TV.v (.int .i64 (IntKind.wrap .i64 ((↑x.1 : Int) + 1)))) = some (TV.v (.int .i64 (↑x_1.1 : Int))) /\ x.2.1 = x_1.2.1 /\ ((x_1.1 <= j + 1 /\ sel (Prod.snd (Prod.snd
 x_1.2)) x_1.1 = []) /\ BHd x_1.2.1 x_1.2.2.1 x_1.2.2.2 /\ MKe l j (0 : Nat) x_1.2.2.2) /\ j + 1 - x_1.1 < j + 1 - x.1) \/ ∃ (x_1 : Nat × Heap × Nat × List Bool
 × Nat), some (z20a j) = some (z20a j) /\ some (TV.v (.hslice x.2.2.1 0 (z20d j) 1)) = some (TV.v (.hslice x_1.2.2.1 0 (z20d j) 1)) /\ some z20f = some (TV.v (.vslice (some (Prod.snd (Prod.snd (Prod.snd (Prod.snd
 x_1))))) (List.length (sel x_1.2.2.2.1 x_1.1)) (List.length (sel x_1.2.2.2.1 x_1.1)) 1 (List.map z20e (sel x_1.2.2.2.1 x_1.1)))) /\ some (TV.v (.int .i64
 (IntKind.wrap .i64 ((↑x.1 : Int) + 1)))) = some (TV.v (.int .i64 (↑x_1.1 : Int))) /\ x.2.1 = x_1.2.1 /\ ((x_1.1 <= j + 1 /\ BHd x_1.2.1 x_1.2.2.1 (Prod.fst (Prod.snd (Prod.snd
 x_1.2))) /\ MKe l j (0 : Nat) x_1.2.2.2.1) /\ Heap.get x_1.2.1 x_1.2.2.2.2 = IObj.tip (List.length (sel x_1.2.2.2.1 x_1.1)) /\ Prod.snd (Prod.snd (Prod.snd (Prod.snd
 x_1))) ≠ x_1.2.2.1) /\ j + 1 - x_1.1 < j + 1 - x.1))) (Q (.vslice none 0 0 1 []) h)) /\ ∀ (x : Nat × Heap × Nat × List Bool × Nat) (b : FF), (x.1 <= j + 1 /\ BHd x.2.1 (Prod.fst (Prod.snd (Prod.snd
 x))) x.2.2.2.1 /\ MKe l j (0 : Nat) x.2.2.2.1) /\ Heap.get x.2.1 x.2.2.2.2 = IObj.tip (List.length (sel x.2.2.2.1 x.1)) /\ Prod.snd (Prod.snd
 x.2.2) ≠ x.2.2.1 -> brS (decide ((↑x.1 : Int) <= (↑j : Int))) (needS (decide (0 <= (↑x.1 : Int)) && decide ((↑x.1 : Int) < (↑(z20d j) : Int))) (hgetS x.2.1 x.2.2.1 fun (r14 : List IV)
 => ldBS r14 ((0 : Nat) + Int.toNat (↑x.1 : Int) * 1) fun b15 => brS b15 (tipS x.2.1 x.2.2.2.2 fun (m16 : Nat) => needS (Nat.beq m16 (List.length (sel x.2.2.2.1 x.1)) && Nat.ble
 ((List.length (sel x.2.2.2.1 x.1) + 1) * 8) (140737488355328 : Nat)) ((∃ (x_1 : Nat × Heap × Nat × List Bool), some (z20a j) = some (z20a j) /\ some (TV.v (.hslice x.2.2.1 0 (z20d j) 1)) = some (TV.v
 (IV.hslice x_1.2.2.1 0 (z20d j) 1)) /\ some (TV.v (.vslice (some x.2.2.2.2) (List.length (sel x.2.2.2.1 x.1) + 1) (List.length (sel (Prod.fst (Prod.snd (Prod.snd (Prod.snd
 x)))) x.1) + 1) 1 (List.map z20e (sel x.2.2.2.1 x.1) ++ [IV.int .i64 (↑x.1 : Int)]))) = some z20f /\ some (TV.v (.int .i64 (IntKind.wrap .i64 ((↑x.1 : Int) + 1)))) = some (TV.v (.int
 .i64 (↑x_1.1 : Int))) /\ Heap.set x.2.1 x.2.2.2.2 (IObj.tip (List.length (sel x.2.2.2.1 x.1) + 1)) = x_1.2.1 /\ ((x_1.1 <= j + 1 /\ sel (Prod.snd (Prod.snd
 x_1.2)) x_1.1 = []) /\ BHd x_1.2.1 x_1.2.2.1 x_1.2.2.2 /\ MKe l j (0 : Nat) x_1.2.2.2) /\ j + 1 - x_1.1 < j + 1 - x.1) \/ ∃ (x_1 : Nat × Heap × Nat × List Bool
 × Nat), some (z20a j) = some (z20a j) /\ some (TV.v (.hslice x.2.2.1 0 (z20d j) 1)) = some (TV.v (.hslice x_1.2.2.1 0 (z20d j) 1)) /\ some (TV.v (.vslice (some x.2.2.2.2) (List.length
 (sel x.2.2.2.1 x.1) + 1) (List.length (sel x.2.2.2.1 x.1) + 1) 1 (List.map z20e (sel x.2.2.2.1 x.1) ++ [IV.int .i64 (↑x.1 : Int)])))
 = some (TV.v (.vslice (some x_1.2.2.2.2) (List.length (sel x_1.2.2.2.1 x_1.1)) (List.length (sel x_1.2.2.2.1 x_1.1)) 1 (List.map z20e (sel (Prod.fst (Prod.snd (Prod.snd
 x_1.2))) x_1.1)))) /\ some (TV.v (.int .i64 (IntKind.wrap .i64 ((↑x.1 : Int) + 1)))) = some (TV.v (.int .i64 (↑x_1.1 : Int))) /\ Heap.set x.2.1 x.2.2.2.2 (IObj.tip (List.length (sel
 x.2.2.2.1 x.1) + 1)) = x_1.2.1 /\ ((x_1.1 <= j + 1 /\ BHd x_1.2.1 x_1.2.2.1 x_1.2.2.2.1 /\ MKe l j (0 : Nat) (Prod.fst (Prod.snd (Prod.snd (Prod.snd
 x_1))))) /\ Heap.get x_1.2.1 x_1.2.2.2.2 = IObj.tip (List.length (sel x_1.2.2.2.1 x_1.1)) /\ x_1.2.2.2.2 ≠ x_1.2.2.1) /\ j + 1 - Prod.fst
 x_1 < j + 1 - x.1)) ((∃ (x_1 : Nat × Heap × Nat × List Bool), some (z20a j) = some (z20a j) /\ some (TV.v (.hslice x.2.2.1 0 (z20d j) 1)) = some (TV.v (.hslice x_1.2.2.1 0 (z20d j) 1)) /\ some (TV.v
 (IV.vslice (some x.2.2.2.2) (List.length (sel x.2.2.2.1 x.1)) (List.length (sel x.2.2.2.1 x.1)) 1 (List.map z20e (sel x.2.2.2.1 (Prod.fst
 x))))) = some z20f /\ some (TV.v (.int .i64 (IntKind.wrap .i64 ((↑x.1 : Int) + 1)))) = some (TV.v (.int .i64 (↑x_1.1 : Int))) /\ x.2.1 = x_1.2.1 /\ ((x_1.1 <= j + 1 /\ sel x_1.2.2.2
 x_1.1 = []) /\ BHd x_1.2.1 x_1.2.2.1 x_1.2.2.2 /\ MKe l j (0 : Nat) x_1.2.2.2) /\ j + 1 - x_1.1 < j + 1 - x.1) \/ ∃ (x_1 : Nat × Heap × Nat × List Bool × Nat), some (z20a
 j) = some (z20a j) /\ some (TV.v (.hslice x.2.2.1 0 (z20d j) 1)) = some (TV.v (.hslice x_1.2.2.1 0 (z20d j) 1)) /\ some (TV.v (.vslice (some x.2.2.2.2) (List.length (sel (Prod.fst
 x.2.2.2) x.1)) (List.length (sel x.2.2.2.1 x.1)) 1 (List.map z20e (sel x.2.2.2.1 x.1)))) = some (TV.v (.vslice (some x_1.2.2.2.2)
 (List.length (sel x_1.2.2.2.1 x_1.1)) (List.length (sel x_1.2.2.2.1 x_1.1)) 1 (List.map z20e (sel x_1.2.2.2.1 x_1.1)))) /\ some (TV.v (.int .i64 (IntKind.wrap
 .i64 ((↑x.1 : Int) + 1)))) = some (TV.v (.int .i64 (↑x_1.1 : Int))) /\ x.2.1 = x_1.2.1 /\ ((x_1.1 <= j + 1 /\ BHd x_1.2.1 x_1.2.2.1 (Prod.fst (Prod.snd (Prod.snd (Prod.snd
 x_1)))) /\ MKe l j (0 : Nat) x_1.2.2.2.1) /\ Heap.get x_1.2.1 x_1.2.2.2.2 = IObj.tip (List.length (sel x_1.2.2.2.1 x_1.1)) /\ x_1.2.2.2.2
 ≠ x_1.2.2.1) /\ j + 1 - x_1.1 < j + 1 - x.1))) (needS (pureL [IV.vslice none 0 (List.length (sel x.2.2.2.1 x.1)) 1 (List.map z20e (sel x.2.2.2.1 (Prod.fst
 x)))]) (Q (.vslice none 0 (List.length (sel x.2.2.2.1 x.1)) 1 (List.map z20e (sel x.2.2.2.1 x.1))) h))))))))) := by kernel_rfl
set_option maxHeartbeats 2000000 in
theorem sDepe : ∀ xs h Q, kDepe xs h Q -> CallW env 20 xs h Q := by
 intro xs h Q hk
 unfold kDepe at hk
 split at hk
 ·rename_i e1 n1 c1 i
  obtain ⟨l, j, ⟨rfl, rfl, rfl⟩, hb, hk⟩ := hk
  refine dF_run (okArgs) (vDepe l j e1 h Q) ?_
  delta z20a z20b z20c z20d z20e z20f z20g z20h z20i
  have tn : ∀ x : Nat, (x : Int).toNat = x := Int.toNat_natCast
  obtain ⟨hw, hjl⟩ := hb
  have hln := hw.ln
  have hbk := hw.back
  have hwr : IntKind.i64.wrap ((j : Int) + 1) = ((j + 1 : Nat) : Int) := by rw [IntWalk.i64_in _ (by omega)]; rfl
  have hs : (sortsA l).getD (j : Int).toNat 0 ≠ 0 := by
   have hq : j < (sortsA l).length := by rw [sortsA_len]; omega
   rw [tn, List.getD_eq_getElem?_getD, List.getElem?_eq_getElem hq]
   exact hw.wf _ (List.getElem_mem hq)
  rw [hwr]
  simp only [tn, repl_false]
  refine needS_intro (by simp only [pureL, pureB, pureL_cN, Bool.and_true]) ⟨l, ⟨rfl, rfl⟩, ⟨fun x hx => by have := hw.ok x hx; exact ⟨by omega, this.2.2.2⟩, hln.2, by omega, by omega⟩, brS_intro (fun c => absurd (beq_iff_eq.1 c) (by rw [tn] at hs; exact hs)) (fun _ => needS_intro (by simp; omega) (needS_intro (by simp; omega) (needS_intro (by rw [Nat.ble_eq]; simp) ⟨⟨(j + 1, _, 0, (List.replicate (j + 1) false).set j true), (by first | rfl | exact True.intro), (by first | rfl | exact True.intro), (by first | rfl | exact True.intro), ?_, (by first | rfl | exact True.intro), ⟨⟨Nat.le_refl _, by simp, by simp, fun p n e1 e2 e3 => by omega⟩, ⟨?_, Nat.one_pos⟩⟩, trivial⟩, ?_⟩)))⟩
  ·dsimp only
   rw [show ((j + 1 : Nat) : Int) - 1 = (j : Int) by omega]
  ·rw [<- setB (by simp)]
   simp only [Nat.zero_add, Nat.mul_one]
   rfl
  rintro ⟨jj, g, id, b⟩ _ ⟨hm, hbh⟩
  dsimp only at hm hbh ⊢
  refine brS_intro (fun c => ?_) (fun c => ?_)
  ·rw [decide_eq_true_eq] at c
   obtain ⟨p, rfl⟩ : ∃ p, jj = p + 1 := ⟨jj - 1, by omega⟩
   have ep : ((p + 1 : Nat) : Int) - 1 = (p : Int) := by omega
   have hpj : p <= j := by have := hm.1; omega
   have hpl : p < l.length := by omega
   have eP : l.getD p default = l[p] := by rw [List.getD_eq_getElem?_getD, List.getElem?_eq_getElem hpl]; rfl
   have h3p := (hw.ok _ (List.getElem_mem hpl)).2.1
   refine ⟨p * 100 + (l.getD p default).ks.length, ⟨(p, g, id, b, 0), (by first | rfl | exact True.intro), (by first | rfl | exact True.intro), (by first | rfl | exact True.intro), by rw [ep], (by first | rfl | exact True.intro), (by first | rfl | exact True.intro), ⟨hm, hbh, Nat.zero_le _, fun q hq => absurd hq (Nat.not_lt_zero _)⟩, by dsimp only; omega⟩, ?_⟩
   rintro ⟨p2, g2, id2, b2, k⟩ _ ⟨hm2, hbh2, hk2, hq⟩ hM
   dsimp only at hm2 hbh2 hk2 hq hM ⊢
   rw [eP] at hM
   have hp2 : p2 <= p := by omega
   have h2l : p2 < l.length := by omega
   have eD : l.getD p2 default = l[p2] := by rw [List.getD_eq_getElem?_getD, List.getElem?_eq_getElem h2l]; rfl
   simp only [eD] at hk2 hq ⊢
   have hlen2 := hm2.2.1
   have hb2 : p2 < b2.length := by omega
   have ex : (b2[p2] = true -> l[p2].ks.length <= k) -> MKe l j p2 b2 := fun hx => ⟨by omega, hlen2, hm2.2.2.1, fun p3 n e1 e2 e3 e4 k3 hk3 => by
    rcases Nat.lt_or_ge p2 p3 with d | d
    ·exact hm2.2.2.2 p3 n e1 d e3 e4 k3 hk3
    ·obtain rfl : p2 = p3 := by omega
     rw [List.getElem?_eq_getElem h2l, Option.some.injEq] at e1
     subst e1
     rw [List.getElem?_eq_getElem hb2, Option.some.injEq] at e4
     have := hx e4
     obtain ⟨q, hq1, rfl⟩ := List.mem_iff_getElem.1 hk3
     exact hq q (by omega) _ (List.getElem?_eq_getElem hq1)⟩
   refine needS_intro (by simp; omega) (ldNk h2l rfl (brS_intro (fun c1 => ?_) (fun c1 => ?_)))
   ·rw [decide_eq_true_eq] at c1
    have hkl : k < l[p2].ks.length := by omega
    have h3q := (hw.ok _ (List.getElem_mem h2l)).2.1
    have hkd := hbk p2 _ (List.getElem?_eq_getElem h2l) _ (List.getElem_mem hkl)
    have hk3 : (l[p2].ks[k]).toNat < b2.length := by omega
    refine needS_intro (by simp; omega) (hget_intro hbh2.1 (ldB_at (mk_at hb2 rfl) (brS_intro (fun c2 => needS_intro (by simp; omega) (ldNk h2l rfl (needS_intro (by simp; omega) (ldI1 hkl (Nat.mul_one _) (needS_intro (by simp; omega) (hget_intro hbh2.1 (needS_intro (by rw [Nat.ble_eq]; simp; omega) ⟨(p2, g2.set id2 (.cells ((b2.set (l[p2].ks[k]).toNat true).map IV.bool)), id2, b2.set (l[p2].ks[k]).toNat true, k + 1), (by first | rfl | exact True.intro), (by first | rfl | exact True.intro), (by first | rfl | exact True.intro), (by first | rfl | exact True.intro), ?_, ?_, ⟨hm2.set (by omega), ⟨?_, hbh2.2⟩, ?_, ?_⟩, ?_⟩))))))) (fun c2 => ?_))))
    ·rw [IntWalk.i64_in _ (by omega)]; rfl
    ·dsimp only
     rw [<- setB hk3]
     simp only [Nat.zero_add, Nat.mul_one]
    ·exact get_set_eq
    ·dsimp only
     rw [eD]
     exact hkl
    ·intro q hq1 k1 e1
     dsimp only at hq1 e1 ⊢
     rw [eD] at e1
     rcases Nat.lt_or_ge q k with d | d
     ·exact set_mono (hq q d k1 e1)
     ·obtain rfl : q = k := by omega
      rw [List.getElem?_eq_getElem hkl, Option.some.injEq] at e1
      rw [<- e1, List.getElem?_set, if_pos rfl, if_pos hk3]
    ·dsimp only
     rw [eD]
     omega
    ·exact ⟨(p2, g2, id2, b2), (by first | rfl | exact True.intro), (by first | rfl | exact True.intro), (by first | rfl | exact True.intro), (by rw [IntWalk.i64_in _ (by omega)]), (by first | rfl | exact True.intro), ⟨ex (fun e => by rw [c2] at e; cases e), hbh2⟩, by dsimp only; omega⟩
   ·rw [decide_eq_false_iff_not] at c1
    exact ⟨(p2, g2, id2, b2), (by first | rfl | exact True.intro), (by first | rfl | exact True.intro), (by first | rfl | exact True.intro), (by rw [IntWalk.i64_in _ (by omega)]), (by first | rfl | exact True.intro), ⟨ex (fun _ => by omega), hbh2⟩, by dsimp only; omega⟩
  ·rw [decide_eq_false_iff_not] at c
   obtain rfl : jj = 0 := by omega
   refine ⟨.inl ⟨(0, g, id, b), (by first | rfl | exact True.intro), (by first | rfl | exact True.intro), (by first | rfl | exact True.intro), (by first | rfl | exact True.intro), (by first | rfl | exact True.intro), ⟨⟨Nat.zero_le _, rfl⟩, hbh, hm⟩, trivial⟩, ?_, ?_⟩
   ·rintro ⟨q, g2, id2, b2⟩ _ ⟨⟨hq, hsl⟩, hbh2, hm2⟩
    dsimp only at hq hsl hbh2 hm2 ⊢
    refine brS_intro (fun c1 => ?_) (fun c1 => ?_)
    ·rw [decide_eq_true_eq] at c1
     have hqb : q < b2.length := by have := hm2.2.1; omega
     refine needS_intro (by simp; omega) (hget_intro hbh2.1 (ldB_at (mk_at hqb rfl) (brS_intro (fun c2 => ?_) (fun c2 => ?_))))
     ·have hst := sel_t (show b2[q]? = some true by rw [List.getElem?_eq_getElem hqb, c2])
      rw [hsl] at hst
      refine .inr ⟨(q + 1, g2.push (.tip 1), id2, b2, g2.next), (by first | rfl | exact True.intro), (by first | rfl | exact True.intro), ?_, ?_, (by first | rfl | exact True.intro), ⟨⟨by dsimp only; omega, ⟨?_, Nat.lt_succ_of_lt hbh2.2⟩, hm2⟩, ?_, Nat.ne_of_gt hbh2.2⟩, by dsimp only; omega⟩
      ·dsimp only
       rw [hst]
       rfl
      ·rw [IntWalk.i64_in _ (by omega)]; rfl
      ·dsimp only
       rw [get_push_lt hbh2.2]
       exact hbh2.1
      ·dsimp only
       rw [hst]
       exact get_push_eq
     ·have hsf := sel_f (show b2[q]? = some false by rw [List.getElem?_eq_getElem hqb, c2])
      exact .inl ⟨(q + 1, g2, id2, b2), (by first | rfl | exact True.intro), (by first | rfl | exact True.intro), (by first | rfl | exact True.intro), (by rw [IntWalk.i64_in _ (by omega)]; rfl), (by first | rfl | exact True.intro), ⟨⟨by dsimp only; omega, by dsimp only; rw [hsf]; exact hsl⟩, hbh2, hm2⟩, by dsimp only; omega⟩
    ·rw [decide_eq_false_iff_not] at c1
     exfalso
     have : (j : Int) ∈ sel b2 q := mem_sel.2 ⟨j, rfl, by omega, hm2.2.2.1⟩
     rw [hsl] at this
     cases this
   ·rintro ⟨q, g2, id2, b2, k⟩ _ ⟨⟨hq, hbh2, hm2⟩, hgk, hne⟩
    dsimp only at hq hbh2 hm2 hgk hne ⊢
    have hsn := sel_len b2 q
    refine brS_intro (fun c1 => ?_) (fun c1 => ?_)
    ·rw [decide_eq_true_eq] at c1
     have hqb : q < b2.length := by have := hm2.2.1; omega
     refine needS_intro (by simp; omega) (hget_intro hbh2.1 (ldB_at (mk_at hqb rfl) (brS_intro (fun c2 => ?_) (fun c2 => ?_))))
     ·have hst := sel_t (show b2[q]? = some true by rw [List.getElem?_eq_getElem hqb, c2])
      refine tip_intro hgk (needS_intro (by simp only [Bool.and_eq_true, nbeq_t, Nat.ble_eq, true_and]; omega) (.inr ⟨(q + 1, g2.set k (.tip ((sel b2 q).length + 1)), id2, b2, k), (by first | rfl | exact True.intro), (by first | rfl | exact True.intro), ?_, ?_, (by first | rfl | exact True.intro), ⟨⟨by dsimp only; omega, ⟨?_, hbh2.2⟩, hm2⟩, ?_, hne⟩, by dsimp only; omega⟩))
      ·dsimp only
       rw [hst]
       simp
      ·rw [IntWalk.i64_in _ (by omega)]; rfl
      ·dsimp only
       rw [get_set_ne hne.symm]
       exact hbh2.1
      ·dsimp only
       rw [hst, get_set_eq]
       simp
     ·have hsf := sel_f (show b2[q]? = some false by rw [List.getElem?_eq_getElem hqb, c2])
      refine .inr ⟨(q + 1, g2, id2, b2, k), (by first | rfl | exact True.intro), (by first | rfl | exact True.intro), ?_, (by rw [IntWalk.i64_in _ (by omega)]; rfl), (by first | rfl | exact True.intro), ⟨⟨by dsimp only; omega, hbh2, hm2⟩, ?_, hne⟩, by dsimp only; omega⟩
      ·dsimp only
       rw [hsf]
      ·dsimp only
       rw [hsf]
       exact hgk
    ·rw [decide_eq_false_iff_not] at c1
     obtain rfl : q = j + 1 := by omega
     exact needS_intro (by simp only [pureL, pureB, pureL_ints, Bool.and_true]) (hk _ (hm2.dep hbk))
 ·exact hk.elim
def cDepe := addC 20 kDepe cArgs
theorem okDepe : Sound env cDepe := sound_add sDepe (okArgs)
def vaInv (l : List Nd) (i : Nat) (args : List Int) : Inv' := atX (Nat × Heap × Nat × List Int × List Int) (fun x => [(0, .v (.vslice none 0 (l).length 3 ((l).flatMap cN))), (1, .v (.int .i64 (i : Int))), (2, .v (.vslice none 0 (args).length 1 ((args).map (IV.int .i64)))), (8, .v (.vslice none 0 (x.2.2.2.1).length 1 ((x.2.2.2.1).map (IV.int .i64)))), (9, .v (.hslice x.2.2.1 0 (i + 1) 1)), (10, .v (.int .i64 (x.1 : Int)))]) (fun _ => []) (fun x => x.2.1)
 (fun x => (x.1 <= x.2.2.2.1.length /\ DepOk l i x.2.2.2.1) /\ VOk args l i x.1 x.2.2.2.1 x.2.2.2.2 /\ x.2.1.get x.2.2.1 = .cells (x.2.2.2.2.map (IV.int .i64))) (fun x => x.2.2.2.1.length - x.1)
def kValu (xs : List IV) (h : Heap) (K : IV -> Heap -> Prop) : Prop := match xs with
 | [.vslice none e1 n1 3 c1, .int .i64 j, .vslice none e2 n2 1 c2] => ∃ (l : List Nd) (i : Nat) (args : List Int), (n1 = l.length /\ c1 = l.flatMap cN /\ j = (i : Int) /\ n2 = args.length /\ c2 = args.map (IV.int .i64)) /\ (WG l /\ i < l.length /\ args.length <= 1000000) /\ ∀ (n : Int) (ok : Bool), (ok = true -> n = vl args l i) -> K (.tuple [.int .i64 n, .bool ok]) h
 | _ => False
noncomputable def z6h  := IV.int .i64
noncomputable def z6i (x_1 : Nat × Heap × Nat × List Int × List Int) := x_1.2.2.2.1
noncomputable abbrev z6a (l : List Nd) (i : Nat) (args : List Int) (x_1 : Nat × Heap × Nat × List Int × List Int) := (x_1.1 <= List.length (z6i x_1) /\ DepOk l i (z6i x_1)) /\ VOk args l i x_1.1 (z6i x_1) x_1.2.2.2.2 /\ Heap.get x_1.2.1 x_1.2.2.1 = IObj.cells (List.map z6h x_1.2.2.2.2)
noncomputable def z6b (args : List Int) := TV.v (.vslice none 0 args.length 1 (List.map z6h args))
noncomputable def z6c (x_1 : Nat × Heap × Nat × List Int × List Int) := TV.v (.vslice none 0 (List.length (z6i x_1)) 1 (List.map z6h (z6i x_1)))
noncomputable def z6d (l : List Nd) := TV.v (.vslice none 0 l.length 3 (List.flatMap cN l))
noncomputable def z6j (i : Nat) := i + 1
noncomputable def z6e (i : Nat) (x_1 : Nat × Heap × Nat × List Int × List Int) := TV.v (.hslice x_1.2.2.1 0 (z6j i) 1)
noncomputable def z6f (i : Nat) := TV.v (.int .i64 (↑i : Int))
noncomputable def z6g (x_1 : Nat × Heap × Nat × List Int × List Int) := TV.v (.int .i64 (↑x_1.1 : Int))
noncomputable def z6k (l5 : Nat) := true && decide (0 < (↑l5 : Int))
noncomputable def z6l  := IV.tuple [.int .i64 0, IV.bool false]
noncomputable def z6m (l5 : Nat) := true && decide (1 < (↑l5 : Int))
noncomputable def z6n (i : Nat) := (↑i : Int) + 1
noncomputable def z6o (l5 : Nat) := true && decide (2 < (↑l5 : Int))
set_option maxRecDepth 100000 in
theorem vValu (l : List Nd) (i : Nat) (args : List Int) (e1 e2 : Nat) (h : Heap) (Q : IV -> Heap -> Prop) : dF (stdS cDepe) env 6 noU (ic1 7 (vaInv l i args)) noI [.vslice none e1 (l).length 3 ((l).flatMap cN), .int .i64 (i : Int), .vslice none e2 (args).length 1 ((args).map (IV.int .i64))] h Q = (
 needS (pureL [IV.vslice none 0 l.length 3 (List.flatMap cN l), IV.int .i64 (↑i : Int), IV.vslice none 0 args.length 1 (List.map z6h args)]) (∃ (l_1 : List Nd), (l.length = l_1.length /\ List.flatMap cN l = List.flatMap cN l_1) /\ ((∀ (x : Nd),
 x ∈ l_1 -> List.length (Nd.ks x) <= 1000000 /\ Nd.op x ≠ 25 /\ Nd.op x ≠ 30 /\ Nd.op x ≠ 31) /\ l_1.length <= 1000000 /\ 0 <= (↑i : Int) /\ (↑i : Int) < (↑l_1.length : Int)) /\ brS (List.getD (sortsA l_1) (Int.toNat (↑i : Int)) 0 != 1)
 (Q z6l h) (∃ (l_2 : List Nd), ∃ (j : Nat), (l.length = l_2.length /\ List.flatMap cN l = List.flatMap cN l_2 /\ (↑i : Int) = (↑j : Int)) /\ (WG l_2 /\ j < l_2.length) /\ ∀ (c : List Int), DepOk l_2 j c -> needS (decide (0 <= IntKind.wrap .i64 (z6n i)) && (decide (IntKind.wrap .i64
 (z6n i) <= IntKind.wrap .i64 (z6n i)) && (decide (IntKind.wrap .i64 (z6n i) <= 9223372036854775807) && decide ((8 : Int) * IntKind.wrap .i64 (z6n i) <= 140737488355328)))) ((∃ (x : Nat × Heap × Nat × List Int × List Int), some (z6d l) = some (z6d l) /\ some (z6f i) =
 some (z6f i) /\ some (z6b args) = some (z6b args) /\ some (TV.v (.vslice none 0 c.length 1 (List.map z6h c))) = some (TV.v (.vslice none 0 x.2.2.2.1.length 1 (List.map z6h x.2.2.2.1)))
 /\ some (TV.v (.hslice 0 0 (Int.toNat (IntKind.wrap .i64 (z6n i))) 1)) = some (TV.v (.hslice x.2.2.1 0 (z6j i) 1)) /\ some (TV.v (.int .i64 0)) = some (TV.v (.int .i64 (↑x.1 : Int))) /\ Heap.mk
 (PT.node PT.nil (some (IObj.cells (repl (Int.toNat (IntKind.wrap .i64 (z6n i))) [IV.int .i64 0]))) PT.nil) ((0 : Nat) + 1) = x.2.1 /\ ((x.1 <= x.2.2.2.1.length /\ DepOk l i (Prod.fst (Prod.snd (Prod.snd (Prod.snd
 x))))) /\ VOk args l i x.1 x.2.2.2.1 x.2.2.2.2 /\ Heap.get x.2.1 x.2.2.1 = IObj.cells (List.map z6h x.2.2.2.2)) /\ True) /\ ∀ (x : Nat × Heap ×
 Nat × List Int × List Int) (b : FF), (x.1 <= x.2.2.2.1.length /\ DepOk l i x.2.2.2.1) /\ VOk args l i x.1 x.2.2.2.1 x.2.2.2.2 /\ Heap.get (Prod.fst
 x.2) x.2.2.1 = IObj.cells (List.map z6h x.2.2.2.2) -> brS (decide ((↑x.1 : Int) < (↑x.2.2.2.1.length : Int))) (needS (decide (0 <= (↑x.1 : Int)) && decide ((↑(Prod.fst
 x) : Int) < (↑x.2.2.2.1.length : Int))) (ldIS .i64 (List.map z6h x.2.2.2.1) (Int.toNat (↑x.1 : Int) * 1) fun n0 => needS (decide (0 <= n0) && decide (n0 < (↑l.length : Int))) (ldIS
 .i64 (List.flatMap cN l) (n0.toNat * 3) fun n1 => ldIS .i64 (List.flatMap cN l) (n0.toNat * 3 + (1 : Nat)) fun n2 => ldVS 1 (List.flatMap cN l) (n0.toNat * 3 + (1 : Nat) + 1) fun (i3 : Option Nat) (e4 l5 : Nat) (c6 : List
 IV) => brS (n1 == 1) (needS (decide (0 <= (↑x.1 : Int)) && decide ((↑x.1 : Int) < (↑x.2.2.2.1.length : Int))) (ldIS .i64 (List.map z6h x.2.2.2.1) (Int.toNat (↑x.1 : Int) * (1
 : Nat)) fun n7 => needS (decide (0 <= n7) && decide (n7 < (↑(z6j i) : Int))) (hgetS x.2.1 x.2.2.1 fun r8 => needS (Nat.ble ((0 : Nat) + n7.toNat * 1 + (1 : Nat)) r8.length) (∃ (x_1 : Nat × Heap × Nat × List Int
 × List Int), some (z6d l) = some (z6d l) /\ some (z6f i) = some (z6f i) /\ some (z6b args) = some (z6b args) /\ some (TV.v (.vslice none 0 x.2.2.2.1.length 1 (List.map z6h x.2.2.2.1))) = some (z6c x_1) /\ some
 (TV.v (.hslice x.2.2.1 0 (z6j i) 1)) = some (z6e i x_1) /\ some (TV.v (.int .i64 (IntKind.wrap .i64 ((↑x.1 : Int) + 1)))) = some (z6g x_1) /\ Heap.set x.2.1 x.2.2.1 (IObj.cells (List.take
 ((0 : Nat) + n7.toNat * 1) r8 ++ [IV.int .i64 n2] ++ List.drop ((0 : Nat) + n7.toNat * 1 + (1 : Nat)) r8)) = x_1.2.1 /\ (z6a l i args x_1) /\ List.length (z6i x_1) - x_1.1 < x.2.2.2.1.length - x.1))))
 (brS (n1 == 2) (brS (decide (n2 < (↑args.length : Int))) (needS (decide (0 <= (↑x.1 : Int)) && decide ((↑x.1 : Int) < (↑x.2.2.2.1.length : Int))) (ldIS .i64 (List.map z6h (Prod.fst (Prod.snd (Prod.snd (Prod.snd
 x))))) (Int.toNat (↑x.1 : Int) * 1) fun n9 => needS (decide (0 <= n2) && decide (n2 < (↑args.length : Int))) (ldIS .i64 (List.map z6h args) (n2.toNat * 1) fun n10 => needS (decide (0 <= n9) && decide (n9 < (↑(z6j i) : Int))) (hgetS
 x.2.1 x.2.2.1 fun r11 => needS (Nat.ble ((0 : Nat) + n9.toNat * 1 + (1 : Nat)) r11.length) (∃ (x_1 : Nat × Heap × Nat × List Int × List Int), some (z6d l) = some (z6d l) /\ some (z6f i) = some (z6f i) /\ some (z6b args) = some
 (z6b args) /\ some (TV.v (.vslice none 0 x.2.2.2.1.length 1 (List.map z6h x.2.2.2.1))) = some (z6c x_1) /\ some (TV.v (.hslice x.2.2.1 0 (z6j i) 1)) = some (z6e
 i x_1) /\ some (TV.v (.int .i64 (IntKind.wrap .i64 ((↑x.1 : Int) + 1)))) = some (z6g x_1) /\ Heap.set x.2.1 x.2.2.1 (IObj.cells (List.take ((0 : Nat) + n9.toNat * 1) r11 ++ [IV.int .i64 n10] ++ List.drop ((0
 : Nat) + n9.toNat * 1 + (1 : Nat)) r11)) = x_1.2.1 /\ (z6a l i args x_1) /\ List.length (z6i x_1) - x_1.1 < x.2.2.2.1.length - x.1))))) (brS (decide (n1 >= 4)) (brS (decide (n1 <= 19)) (needS (decide ((0 :
 Int) <= (↑x.1 : Int)) && decide ((↑x.1 : Int) < (↑x.2.2.2.1.length : Int))) (ldIS .i64 (List.map z6h x.2.2.2.1) (Int.toNat (↑x.1 : Int) * 1) fun n12 => needS (z6k l5) (ldIS
 .i64 c6 0 fun n13 => needS (decide (0 <= n13) && decide (n13 < (↑(z6j i) : Int))) (hgetS x.2.1 x.2.2.1 fun r14 => ldIS .i64 r14 ((0 : Nat) + n13.toNat * 1) fun n15 => needS (z6m l5) (ldIS
 .i64 c6 1 fun n16 => needS (decide (0 <= n16) && decide (n16 < (↑(z6j i) : Int))) (hgetS x.2.1 x.2.2.1 fun r17 => ldIS .i64 r17 ((0 : Nat) + n16.toNat * 1) fun n18 => needS (decide ((0 :
 Int) <= n12) && decide (n12 < (↑(z6j i) : Int))) (hgetS x.2.1 x.2.2.1 fun r19 => needS (Nat.ble ((0 : Nat) + n12.toNat * 1 + (1 : Nat)) r19.length) (∃ (x_1 : Nat × Heap × Nat × List Int × List Int), some (z6d l) = some (z6d l)
 /\ some (z6f i) = some (z6f i) /\ some (z6b args) = some (z6b args) /\ some (TV.v (.vslice none 0 x.2.2.2.1.length 1 (List.map z6h x.2.2.2.1))) = some (z6c x_1) /\ some (TV.v (.hslice (Prod.fst (Prod.snd (Prod.snd
 x))) 0 (z6j i) 1)) = some (z6e i x_1) /\ some (TV.v (.int .i64 (IntKind.wrap .i64 ((↑x.1 : Int) + 1)))) = some (z6g x_1) /\ Heap.set x.2.1 x.2.2.1 (IObj.cells (List.take ((0 : Nat) + n12.toNat * 1)
 r19 ++ [IV.int .i64 (wbin n1 n15 n18)] ++ List.drop ((0 : Nat) + n12.toNat * 1 + (1 : Nat)) r19)) = x_1.2.1 /\ (z6a l i args x_1) /\ List.length (z6i x_1) - x_1.1 < x.2.2.2.1.length - x.1)))))))) (brS (n1 == (20 :
 Int)) (needS (decide (0 <= (↑x.1 : Int)) && decide ((↑x.1 : Int) < (↑x.2.2.2.1.length : Int))) (ldIS .i64 (List.map z6h x.2.2.2.1) (Int.toNat (↑x.1 : Int) * 1) fun (n20 : Int)
 => needS (z6k l5) (ldIS .i64 c6 0 fun n21 => needS (decide (0 <= n21) && decide (n21 < (↑(z6j i) : Int))) (hgetS x.2.1 x.2.2.1 fun r22 => ldIS .i64 r22 ((0 : Nat) + n21.toNat * 1) fun (n23 : Int)
 => needS (decide (0 <= n20) && decide (n20 < (↑(z6j i) : Int))) (hgetS x.2.1 x.2.2.1 fun r24 => needS (Nat.ble ((0 : Nat) + n20.toNat * 1 + (1 : Nat)) r24.length) (∃ (x_1 : Nat × Heap × Nat × List Int × List Int), some
 (z6d l) = some (z6d l) /\ some (z6f i) = some (z6f i) /\ some (z6b args) = some (z6b args) /\ some (TV.v (.vslice none 0 x.2.2.2.1.length 1 (List.map z6h x.2.2.2.1))) = some (z6c x_1) /\ some (TV.v (.hslice
 x.2.2.1 (0 : Nat) (z6j i) (1 : Nat))) = some (z6e i x_1) /\ some (TV.v (.int .i64 (IntKind.wrap .i64 ((↑x.1 : Int) + 1)))) = some (z6g x_1) /\ Heap.set x.2.1 x.2.2.1 (IObj.cells (List.take ((0 : Nat)
 + n20.toNat * 1) r24 ++ [IV.int .i64 (wun n1 n23)] ++ List.drop ((0 : Nat) + n20.toNat * 1 + (1 : Nat)) r24)) = x_1.2.1 /\ (z6a l i args x_1) /\ List.length (z6i x_1) - x_1.1 < x.2.2.2.1.length - x.1))))))
 (brS (n1 == 21) (needS (decide (0 <= (↑x.1 : Int)) && decide ((↑x.1 : Int) < (↑x.2.2.2.1.length : Int))) (ldIS .i64 (List.map z6h x.2.2.2.1) (Int.toNat (↑x.1 : Int) * 1)
 fun n25 => needS (z6k l5) (ldIS .i64 c6 0 fun n26 => needS (decide (0 <= n26) && decide (n26 < (↑(z6j i) : Int))) (hgetS x.2.1 x.2.2.1 fun r27 => ldIS .i64 r27 ((0 : Nat) + n26.toNat * 1)
 fun n28 => needS (decide (0 <= n25) && decide (n25 < (↑(z6j i) : Int))) (hgetS x.2.1 x.2.2.1 fun r29 => needS (Nat.ble ((0 : Nat) + n25.toNat * 1 + (1 : Nat)) r29.length) (∃ (x_1 : Nat × Heap × Nat × List Int ×
 List Int), some (z6d l) = some (z6d l) /\ some (z6f i) = some (z6f i) /\ some (z6b args) = some (z6b args) /\ some (TV.v (.vslice none 0 x.2.2.2.1.length 1 (List.map z6h x.2.2.2.1))) = some (z6c x_1) /\ some
 (TV.v (.hslice x.2.2.1 0 (z6j i) 1)) = some (z6e i x_1) /\ some (TV.v (.int .i64 (IntKind.wrap .i64 ((↑x.1 : Int) + 1)))) = some (z6g x_1) /\ Heap.set x.2.1 x.2.2.1 (IObj.cells (List.take
 ((0 : Nat) + n25.toNat * 1) r29 ++ [IV.int .i64 (wun n1 n28)] ++ List.drop ((0 : Nat) + n25.toNat * 1 + (1 : Nat)) r29)) = x_1.2.1 /\ (z6a l i args x_1) /\ List.length (z6i x_1) - x_1.1 < x.2.2.2.1.length - Prod.fst
 x)))))) (brS (n1 == 22) (needS (z6k l5) (ldIS .i64 c6 0 fun n30 => needS (decide (0 <= n30) && decide (n30 < (↑(z6j i) : Int))) (hgetS x.2.1 x.2.2.1 fun r31 => ldIS .i64 r31 ((0 : Nat) + n30.toNat
 * (1 : Nat)) fun n32 => brS (n32 != 0) (needS (decide (0 <= (↑x.1 : Int)) && decide ((↑x.1 : Int) < (↑x.2.2.2.1.length : Int))) (ldIS .i64 (List.map z6h x.2.2.2.1) (Int.toNat
 (↑x.1 : Int) * 1) fun n33 => needS (z6m l5) (ldIS .i64 c6 1 fun n34 => needS (decide (0 <= n34) && decide (n34 < (↑(z6j i) : Int))) (hgetS x.2.1 x.2.2.1 fun r35 => ldIS .i64 r35 ((0
 : Nat) + n34.toNat * 1) fun n36 => needS (decide (0 <= n33) && decide (n33 < (↑(z6j i) : Int))) (hgetS x.2.1 x.2.2.1 fun r37 => needS (Nat.ble ((0 : Nat) + n33.toNat * 1 + (1 : Nat)) r37.length) (∃
 (x_1 : Nat × Heap × Nat × List Int × List Int), some (z6d l) = some (z6d l) /\ some (z6f i) = some (z6f i) /\ some (z6b args) = some (z6b args) /\ some (TV.v (.vslice none 0 x.2.2.2.1.length 1 (List.map z6h (Prod.fst (Prod.snd (Prod.snd (Prod.snd
 x))))))) = some (z6c x_1) /\ some (TV.v (.hslice x.2.2.1 0 (z6j i) 1)) = some (z6e i x_1) /\ some (TV.v (.int .i64 (IntKind.wrap .i64 ((↑x.1 : Int) + 1)))) = some (z6g x_1) /\ Heap.set x.2.1 (Prod.fst (Prod.snd
 x.2)) (IObj.cells (List.take ((0 : Nat) + n33.toNat * 1) r37 ++ [IV.int .i64 n36] ++ List.drop ((0 : Nat) + n33.toNat * 1 + (1 : Nat)) r37)) = x_1.2.1 /\ (z6a l i args x_1) /\ List.length (z6i x_1) - x_1.1 < List.length (Prod.fst (Prod.snd
 x.2.2)) - x.1)))))) (needS (decide (0 <= (↑x.1 : Int)) && decide ((↑x.1 : Int) < (↑x.2.2.2.1.length : Int))) (ldIS .i64 (List.map z6h x.2.2.2.1) (Int.toNat (↑(Prod.fst
 x) : Int) * 1) fun n38 => needS (z6o l5) (ldIS .i64 c6 2 fun n39 => needS (decide (0 <= n39) && decide (n39 < (↑(z6j i) : Int))) (hgetS x.2.1 x.2.2.1 fun r40 => ldIS .i64 r40 ((0 : Nat) + Int.toNat
 n39 * 1) fun n41 => needS (decide (0 <= n38) && decide (n38 < (↑(z6j i) : Int))) (hgetS x.2.1 x.2.2.1 fun r42 => needS (Nat.ble ((0 : Nat) + n38.toNat * 1 + (1 : Nat)) r42.length) (∃ (x_1 : Nat × Heap ×
 Nat × List Int × List Int), some (z6d l) = some (z6d l) /\ some (z6f i) = some (z6f i) /\ some (z6b args) = some (z6b args) /\ some (TV.v (.vslice none 0 x.2.2.2.1.length 1 (List.map z6h x.2.2.2.1))) = some
 (z6c x_1) /\ some (TV.v (.hslice x.2.2.1 0 (z6j i) 1)) = some (z6e i x_1) /\ some (TV.v (.int .i64 (IntKind.wrap .i64 ((↑x.1 : Int) + 1)))) = some (z6g x_1) /\ Heap.set x.2.1 x.2.2.1
 (IObj.cells (List.take ((0 : Nat) + n38.toNat * 1) r42 ++ [IV.int .i64 n41] ++ List.drop ((0 : Nat) + n38.toNat * 1 + (1 : Nat)) r42)) = x_1.2.1 /\ (z6a l i args x_1) /\ List.length (z6i x_1) - x_1.1 < List.length (Prod.fst (Prod.snd (Prod.snd (Prod.snd
 x)))) - x.1))))))))) (Q z6l h))))) (brS (n1 == 20) (needS (decide (0 <= (↑x.1 : Int)) && decide ((↑x.1 : Int) < (↑x.2.2.2.1.length : Int))) (ldIS .i64 (List.map z6h x.2.2.2.1)
 (Int.toNat (↑x.1 : Int) * 1) fun n43 => needS (z6k l5) (ldIS .i64 c6 0 fun n44 => needS (decide (0 <= n44) && decide (n44 < (↑(z6j i) : Int))) (hgetS x.2.1 x.2.2.1 fun r45 => ldIS .i64
 r45 ((0 : Nat) + n44.toNat * 1) fun n46 => needS (decide (0 <= n43) && decide (n43 < (↑(z6j i) : Int))) (hgetS x.2.1 x.2.2.1 fun r47 => needS (Nat.ble ((0 : Nat) + n43.toNat * 1 + (1 : Nat)) r47.length)
 (∃ (x_1 : Nat × Heap × Nat × List Int × List Int), some (z6d l) = some (z6d l) /\ some (z6f i) = some (z6f i) /\ some (z6b args) = some (z6b args) /\ some (TV.v (.vslice none 0 x.2.2.2.1.length 1 (List.map z6h (Prod.fst (Prod.snd (Prod.snd (Prod.snd
 x))))))) = some (z6c x_1) /\ some (TV.v (.hslice x.2.2.1 0 (z6j i) 1)) = some (z6e i x_1) /\ some (TV.v (.int .i64 (IntKind.wrap .i64 ((↑x.1 : Int) + 1)))) = some (z6g x_1) /\ Heap.set x.2.1 (Prod.fst (Prod.snd
 x.2)) (IObj.cells (List.take ((0 : Nat) + n43.toNat * 1) r47 ++ [IV.int .i64 (wun n1 n46)] ++ List.drop ((0 : Nat) + n43.toNat * 1 + (1 : Nat)) r47)) = x_1.2.1 /\ (z6a l i args x_1) /\ List.length (z6i x_1) - x_1.1 < List.length (Prod.fst (Prod.snd
 x.2.2)) - x.1)))))) (brS (n1 == 21) (needS (decide (0 <= (↑x.1 : Int)) && decide ((↑x.1 : Int) < (↑x.2.2.2.1.length : Int))) (ldIS .i64 (List.map z6h x.2.2.2.1)
 (Int.toNat (↑x.1 : Int) * 1) fun n48 => needS (z6k l5) (ldIS .i64 c6 0 fun n49 => needS (decide (0 <= n49) && decide (n49 < (↑(z6j i) : Int))) (hgetS x.2.1 x.2.2.1 fun r50 => ldIS .i64
 r50 ((0 : Nat) + n49.toNat * 1) fun n51 => needS (decide (0 <= n48) && decide (n48 < (↑(z6j i) : Int))) (hgetS x.2.1 x.2.2.1 fun r52 => needS (Nat.ble ((0 : Nat) + n48.toNat * 1 + (1 : Nat)) r52.length)
 (∃ (x_1 : Nat × Heap × Nat × List Int × List Int), some (z6d l) = some (z6d l) /\ some (z6f i) = some (z6f i) /\ some (z6b args) = some (z6b args) /\ some (TV.v (.vslice none 0 x.2.2.2.1.length 1 (List.map z6h (Prod.fst (Prod.snd (Prod.snd (Prod.snd
 x))))))) = some (z6c x_1) /\ some (TV.v (.hslice x.2.2.1 0 (z6j i) 1)) = some (z6e i x_1) /\ some (TV.v (.int .i64 (IntKind.wrap .i64 ((↑x.1 : Int) + 1)))) = some (z6g x_1) /\ Heap.set x.2.1 (Prod.fst (Prod.snd
 x.2)) (IObj.cells (List.take ((0 : Nat) + n48.toNat * 1) r52 ++ [IV.int .i64 (wun n1 n51)] ++ List.drop ((0 : Nat) + n48.toNat * 1 + (1 : Nat)) r52)) = x_1.2.1 /\ (z6a l i args x_1) /\ List.length (z6i x_1) - x_1.1 < List.length (Prod.fst (Prod.snd
 x.2.2)) - x.1)))))) (brS (n1 == 22) (needS (z6k l5) (ldIS .i64 c6 0 fun n53 => needS (decide (0 <= n53) && decide (n53 < (↑(z6j i) : Int))) (hgetS x.2.1 x.2.2.1 fun r54 => ldIS .i64
 r54 ((0 : Nat) + n53.toNat * 1) fun n55 => brS (n55 != 0) (needS (decide (0 <= (↑x.1 : Int)) && decide ((↑x.1 : Int) < (↑x.2.2.2.1.length : Int))) (ldIS .i64 (List.map z6h (Prod.fst (Prod.snd (Prod.snd
 x.2)))) (Int.toNat (↑x.1 : Int) * 1) fun n56 => needS (z6m l5) (ldIS .i64 c6 1 fun n57 => needS (decide (0 <= n57) && decide (n57 < (↑(z6j i) : Int))) (hgetS x.2.1 x.2.2.1 fun (r58 : List IV)
 => ldIS .i64 r58 ((0 : Nat) + n57.toNat * 1) fun n59 => needS (decide (0 <= n56) && decide (n56 < (↑(z6j i) : Int))) (hgetS x.2.1 x.2.2.1 fun r60 => needS (Nat.ble ((0 : Nat) + n56.toNat * 1 + (1 :
 Nat)) r60.length) (∃ (x_1 : Nat × Heap × Nat × List Int × List Int), some (z6d l) = some (z6d l) /\ some (z6f i) = some (z6f i) /\ some (z6b args) = some (z6b args) /\ some (TV.v (.vslice none 0 x.2.2.2.1.length 1 (List.map z6h (Prod.fst
 x.2.2.2)))) = some (z6c x_1) /\ some (TV.v (.hslice x.2.2.1 0 (z6j i) 1)) = some (z6e i x_1) /\ some (TV.v (.int .i64 (IntKind.wrap .i64 ((↑x.1 : Int) + 1)))) = some (z6g x_1) /\ Heap.set (Prod.fst (Prod.snd
 x)) x.2.2.1 (IObj.cells (List.take ((0 : Nat) + n56.toNat * 1) r60 ++ [IV.int .i64 n59] ++ List.drop ((0 : Nat) + n56.toNat * 1 + (1 : Nat)) r60)) = x_1.2.1 /\ (z6a l i args x_1) /\ List.length (z6i x_1) - x_1.1 < List.length
 x.2.2.2.1 - x.1)))))) (needS (decide (0 <= (↑x.1 : Int)) && decide ((↑x.1 : Int) < (↑x.2.2.2.1.length : Int))) (ldIS .i64 (List.map z6h x.2.2.2.1)
 (Int.toNat (↑x.1 : Int) * 1) fun n61 => needS (z6o l5) (ldIS .i64 c6 2 fun n62 => needS (decide (0 <= n62) && decide (n62 < (↑(z6j i) : Int))) (hgetS x.2.1 x.2.2.1 fun r63 => ldIS .i64
 r63 ((0 : Nat) + n62.toNat * 1) fun n64 => needS (decide (0 <= n61) && decide (n61 < (↑(z6j i) : Int))) (hgetS x.2.1 x.2.2.1 fun r65 => needS (Nat.ble ((0 : Nat) + n61.toNat * 1 + (1 : Nat)) r65.length)
 (∃ (x_1 : Nat × Heap × Nat × List Int × List Int), some (z6d l) = some (z6d l) /\ some (z6f i) = some (z6f i) /\ some (z6b args) = some (z6b args) /\ some (TV.v (.vslice none 0 x.2.2.2.1.length 1 (List.map z6h (Prod.fst (Prod.snd (Prod.snd (Prod.snd
 x))))))) = some (z6c x_1) /\ some (TV.v (.hslice x.2.2.1 0 (z6j i) 1)) = some (z6e i x_1) /\ some (TV.v (.int .i64 (IntKind.wrap .i64 ((↑x.1 : Int) + 1)))) = some (z6g x_1) /\ Heap.set x.2.1 (Prod.fst (Prod.snd
 x.2)) (IObj.cells (List.take ((0 : Nat) + n61.toNat * 1) r65 ++ [IV.int .i64 n64] ++ List.drop ((0 : Nat) + n61.toNat * 1 + (1 : Nat)) r65)) = x_1.2.1 /\ (z6a l i args x_1) /\ List.length (z6i x_1) - x_1.1 < List.length (Prod.fst (Prod.snd
 x.2.2)) - x.1))))))))) (Q z6l h)))))) (brS (decide (n1 >= 4)) (brS (decide (n1 <= 19)) (needS (decide (0 <= (↑x.1 : Int)) && decide ((↑x.1 : Int) < (↑x.2.2.2.1.length : Int))) (ldIS .i64
 (List.map z6h x.2.2.2.1) (Int.toNat (↑x.1 : Int) * 1) fun n66 => needS (z6k l5) (ldIS .i64 c6 0 fun n67 => needS (decide (0 <= n67) && decide (n67 < (↑(z6j i) : Int))) (hgetS x.2.1 (Prod.fst (Prod.snd
 x.2)) fun r68 => ldIS .i64 r68 ((0 : Nat) + n67.toNat * 1) fun n69 => needS (z6m l5) (ldIS .i64 c6 1 fun n70 => needS (decide (0 <= n70) && decide (n70 < (↑(z6j i) : Int))) (hgetS x.2.1 (Prod.fst (Prod.snd
 x.2)) fun r71 => ldIS .i64 r71 ((0 : Nat) + n70.toNat * 1) fun n72 => needS (decide (0 <= n66) && decide (n66 < (↑(z6j i) : Int))) (hgetS x.2.1 x.2.2.1 fun r73 => needS (Nat.ble ((0 : Nat)
 + n66.toNat * 1 + (1 : Nat)) r73.length) (∃ (x_1 : Nat × Heap × Nat × List Int × List Int), some (z6d l) = some (z6d l) /\ some (z6f i) = some (z6f i) /\ some (z6b args) = some (z6b args) /\ some (TV.v (.vslice none 0 x.2.2.2.1.length
 1 (List.map z6h x.2.2.2.1))) = some (z6c x_1) /\ some (TV.v (.hslice x.2.2.1 0 (z6j i) 1)) = some (z6e i x_1) /\ some (TV.v (.int .i64 (IntKind.wrap .i64 ((↑x.1 : Int) + 1)))) = some
 (z6g x_1) /\ Heap.set x.2.1 x.2.2.1 (IObj.cells (List.take ((0 : Nat) + n66.toNat * 1) r73 ++ [IV.int .i64 (wbin n1 n69 n72)] ++ List.drop ((0 : Nat) + n66.toNat * 1 + (1 : Nat)) r73)) = x_1.2.1 /\ (z6a l i args
 x_1) /\ List.length (z6i x_1) - x_1.1 < x.2.2.2.1.length - x.1)))))))) (brS (n1 == 20) (needS (decide (0 <= (↑x.1 : Int)) && decide ((↑x.1 : Int) < (↑x.2.2.2.1.length : Int)))
 (ldIS .i64 (List.map z6h x.2.2.2.1) (Int.toNat (↑x.1 : Int) * 1) fun n74 => needS (z6k l5) (ldIS .i64 c6 0 fun n75 => needS (decide (0 <= n75) && decide (n75 < (↑(z6j i) : Int))) (hgetS (Prod.fst (Prod.snd
 x)) x.2.2.1 fun r76 => ldIS .i64 r76 ((0 : Nat) + n75.toNat * 1) fun n77 => needS (decide (0 <= n74) && decide (n74 < (↑(z6j i) : Int))) (hgetS x.2.1 x.2.2.1 fun r78 => needS
 (Nat.ble ((0 : Nat) + n74.toNat * 1 + (1 : Nat)) r78.length) (∃ (x_1 : Nat × Heap × Nat × List Int × List Int), some (z6d l) = some (z6d l) /\ some (z6f i) = some (z6f i) /\ some (z6b args) = some (z6b args) /\ some (TV.v (.vslice none 0 (List.length (Prod.fst (Prod.snd (Prod.snd
 x.2)))) 1 (List.map z6h x.2.2.2.1))) = some (z6c x_1) /\ some (TV.v (.hslice x.2.2.1 0 (z6j i) 1)) = some (z6e i x_1) /\ some (TV.v (.int .i64 (IntKind.wrap .i64 ((↑x.1 : Int) + (1
 : Int))))) = some (z6g x_1) /\ Heap.set x.2.1 x.2.2.1 (IObj.cells (List.take ((0 : Nat) + n74.toNat * 1) r78 ++ [IV.int .i64 (wun n1 n77)] ++ List.drop ((0 : Nat) + n74.toNat * 1 + (1 : Nat)) r78)) = x_1.2.1 /\
 (z6a l i args x_1) /\ List.length (z6i x_1) - x_1.1 < x.2.2.2.1.length - x.1)))))) (brS (n1 == 21) (needS (decide (0 <= (↑x.1 : Int)) && decide ((↑x.1 : Int) < (↑(List.length (Prod.fst (Prod.snd (Prod.snd (Prod.snd
 x))))) : Int))) (ldIS .i64 (List.map z6h x.2.2.2.1) (Int.toNat (↑x.1 : Int) * 1) fun n79 => needS (z6k l5) (ldIS .i64 c6 0 fun n80 => needS (decide (0 <= n80) && decide (n80 < (↑(z6j i) : Int))) (hgetS (Prod.fst
 x.2) x.2.2.1 fun r81 => ldIS .i64 r81 ((0 : Nat) + n80.toNat * 1) fun n82 => needS (decide (0 <= n79) && decide (n79 < (↑(z6j i) : Int))) (hgetS x.2.1 x.2.2.1 fun (r83 : List
 IV) => needS (Nat.ble ((0 : Nat) + n79.toNat * 1 + (1 : Nat)) r83.length) (∃ (x_1 : Nat × Heap × Nat × List Int × List Int), some (z6d l) = some (z6d l) /\ some (z6f i) = some (z6f i) /\ some (z6b args) = some (z6b args) /\ some (TV.v (.vslice none 0 (List.length (Prod.fst (Prod.snd
 x.2.2))) 1 (List.map z6h x.2.2.2.1))) = some (z6c x_1) /\ some (TV.v (.hslice x.2.2.1 0 (z6j i) 1)) = some (z6e i x_1) /\ some (TV.v (.int .i64 (IntKind.wrap .i64 ((↑x.1 :
 Int) + 1)))) = some (z6g x_1) /\ Heap.set x.2.1 x.2.2.1 (IObj.cells (List.take ((0 : Nat) + n79.toNat * 1) r83 ++ [IV.int .i64 (wun n1 n82)] ++ List.drop ((0 : Nat) + n79.toNat * 1 + (1 : Nat)) r83)) = Prod.fst (Prod.snd
 x_1) /\ (z6a l i args x_1) /\ List.length (z6i x_1) - x_1.1 < x.2.2.2.1.length - x.1)))))) (brS (n1 == 22) (needS (z6k l5) (ldIS .i64 c6 0 fun n84 => needS (decide (0 <= n84) && decide (n84 < (↑(z6j i) : Int)))
 (hgetS x.2.1 x.2.2.1 fun r85 => ldIS .i64 r85 ((0 : Nat) + n84.toNat * 1) fun n86 => brS (n86 != 0) (needS (decide (0 <= (↑x.1 : Int)) && decide ((↑x.1 : Int) < (↑(List.length (Prod.fst
 x.2.2.2)) : Int))) (ldIS .i64 (List.map z6h x.2.2.2.1) (Int.toNat (↑x.1 : Int) * 1) fun n87 => needS (z6m l5) (ldIS .i64 c6 1 fun n88 => needS (decide (0 <= n88) && decide (n88
 < (↑(z6j i) : Int))) (hgetS x.2.1 x.2.2.1 fun r89 => ldIS .i64 r89 ((0 : Nat) + n88.toNat * 1) fun n90 => needS (decide (0 <= n87) && decide (n87 < (↑(z6j i) : Int))) (hgetS x.2.1 (Prod.fst (Prod.snd
 x.2)) fun r91 => needS (Nat.ble ((0 : Nat) + n87.toNat * 1 + (1 : Nat)) r91.length) (∃ (x_1 : Nat × Heap × Nat × List Int × List Int), some (z6d l) = some (z6d l) /\ some (z6f i) = some (z6f i) /\ some (z6b args) = some (z6b args) /\ some (TV.v (.vslice none (0
 : Nat) x.2.2.2.1.length 1 (List.map z6h x.2.2.2.1))) = some (z6c x_1) /\ some (TV.v (.hslice x.2.2.1 0 (z6j i) 1)) = some (z6e i x_1) /\ some (TV.v (.int .i64 (IntKind.wrap
 .i64 ((↑x.1 : Int) + 1)))) = some (z6g x_1) /\ Heap.set x.2.1 x.2.2.1 (IObj.cells (List.take ((0 : Nat) + n87.toNat * 1) r91 ++ [IV.int .i64 n90] ++ List.drop ((0 : Nat) + n87.toNat * 1 + (1 : Nat)) r91))
 = x_1.2.1 /\ (z6a l i args x_1) /\ List.length (z6i x_1) - x_1.1 < x.2.2.2.1.length - x.1)))))) (needS (decide (0 <= (↑x.1 : Int)) && decide ((↑x.1 : Int) < (↑(List.length (Prod.fst (Prod.snd (Prod.snd (Prod.snd
 x))))) : Int))) (ldIS .i64 (List.map z6h x.2.2.2.1) (Int.toNat (↑x.1 : Int) * 1) fun n92 => needS (z6o l5) (ldIS .i64 c6 2 fun n93 => needS (decide (0 <= n93) && decide (n93 < (↑(z6j i) : Int))) (hgetS (Prod.fst
 x.2) x.2.2.1 fun r94 => ldIS .i64 r94 ((0 : Nat) + n93.toNat * 1) fun n95 => needS (decide (0 <= n92) && decide (n92 < (↑(z6j i) : Int))) (hgetS x.2.1 x.2.2.1 fun (r96 : List
 IV) => needS (Nat.ble ((0 : Nat) + n92.toNat * 1 + (1 : Nat)) r96.length) (∃ (x_1 : Nat × Heap × Nat × List Int × List Int), some (z6d l) = some (z6d l) /\ some (z6f i) = some (z6f i) /\ some (z6b args) = some (z6b args) /\ some (TV.v (.vslice none 0 (List.length (Prod.fst (Prod.snd
 x.2.2))) 1 (List.map z6h x.2.2.2.1))) = some (z6c x_1) /\ some (TV.v (.hslice x.2.2.1 0 (z6j i) 1)) = some (z6e i x_1) /\ some (TV.v (.int .i64 (IntKind.wrap .i64 ((↑x.1 :
 Int) + 1)))) = some (z6g x_1) /\ Heap.set x.2.1 x.2.2.1 (IObj.cells (List.take ((0 : Nat) + n92.toNat * 1) r96 ++ [IV.int .i64 n95] ++ List.drop ((0 : Nat) + n92.toNat * 1 + (1 : Nat)) r96)) = x_1.2.1 /\
 (z6a l i args x_1) /\ List.length (z6i x_1) - x_1.1 < x.2.2.2.1.length - x.1))))))))) (Q z6l h))))) (brS (n1 == 20) (needS (decide (0 <= (↑x.1 : Int)) && decide ((↑x.1 : Int) < (↑(List.length (Prod.fst (Prod.snd (Prod.snd
 x.2)))) : Int))) (ldIS .i64 (List.map z6h x.2.2.2.1) (Int.toNat (↑x.1 : Int) * 1) fun n97 => needS (z6k l5) (ldIS .i64 c6 0 fun n98 => needS (decide (0 <= n98) && decide (n98 < (↑(z6j i) : Int)))
 (hgetS x.2.1 x.2.2.1 fun r99 => ldIS .i64 r99 ((0 : Nat) + n98.toNat * 1) fun n100 => needS (decide (0 <= n97) && decide (n97 < (↑(z6j i) : Int))) (hgetS x.2.1 x.2.2.1
 fun r101 => needS (Nat.ble ((0 : Nat) + n97.toNat * 1 + (1 : Nat)) r101.length) (∃ (x_1 : Nat × Heap × Nat × List Int × List Int), some (z6d l) = some (z6d l) /\ some (z6f i) = some (z6f i) /\ some (z6b args) = some (z6b args) /\ some (TV.v (.vslice none 0 (List.length
 x.2.2.2.1) 1 (List.map z6h x.2.2.2.1))) = some (z6c x_1) /\ some (TV.v (.hslice x.2.2.1 0 (z6j i) 1)) = some (z6e i x_1) /\ some (TV.v (.int .i64 (IntKind.wrap .i64
 ((↑x.1 : Int) + 1)))) = some (z6g x_1) /\ Heap.set x.2.1 x.2.2.1 (IObj.cells (List.take ((0 : Nat) + n97.toNat * 1) r101 ++ [IV.int .i64 (wun n1 n100)] ++ List.drop ((0 : Nat) + n97.toNat * 1 + (1 : Nat)) r101))
 = x_1.2.1 /\ (z6a l i args x_1) /\ List.length (z6i x_1) - x_1.1 < x.2.2.2.1.length - x.1)))))) (brS (n1 == 21) (needS (decide (0 <= (↑x.1 : Int)) && decide ((↑x.1 : Int) < (↑(List.length (Prod.fst (Prod.snd
 x.2.2))) : Int))) (ldIS .i64 (List.map z6h x.2.2.2.1) (Int.toNat (↑x.1 : Int) * 1) fun n102 => needS (z6k l5) (ldIS .i64 c6 0 fun n103 => needS (decide (0 <= n103) && decide (n103 < (↑(z6j
 i) : Int))) (hgetS x.2.1 x.2.2.1 fun r104 => ldIS .i64 r104 ((0 : Nat) + n103.toNat * 1) fun n105 => needS (decide (0 <= n102) && decide (n102 < (↑(z6j i) : Int))) (hgetS x.2.1 (Prod.fst (Prod.snd
 x.2)) fun r106 => needS (Nat.ble ((0 : Nat) + n102.toNat * 1 + (1 : Nat)) r106.length) (∃ (x_1 : Nat × Heap × Nat × List Int × List Int), some (z6d l) = some (z6d l) /\ some (z6f i) = some (z6f i) /\ some (z6b args) = some (z6b args) /\ some (TV.v (.vslice none
 0 x.2.2.2.1.length 1 (List.map z6h x.2.2.2.1))) = some (z6c x_1) /\ some (TV.v (.hslice x.2.2.1 0 (z6j i) 1)) = some (z6e i x_1) /\ some (TV.v (.int .i64
 (IntKind.wrap .i64 ((↑x.1 : Int) + 1)))) = some (z6g x_1) /\ Heap.set x.2.1 x.2.2.1 (IObj.cells (List.take ((0 : Nat) + n102.toNat * 1) r106 ++ [IV.int .i64 (wun n1 n105)] ++ List.drop ((0 : Nat) + n102.toNat *
 (1 : Nat) + 1) r106)) = x_1.2.1 /\ (z6a l i args x_1) /\ List.length (z6i x_1) - x_1.1 < x.2.2.2.1.length - x.1)))))) (brS (n1 == 22) (needS (z6k l5) (ldIS .i64 c6 0 fun n107 => needS (decide ((0
 : Int) <= n107) && decide (n107 < (↑(z6j i) : Int))) (hgetS x.2.1 x.2.2.1 fun r108 => ldIS .i64 r108 ((0 : Nat) + n107.toNat * 1) fun n109 => brS (n109 != 0) (needS (decide (0 <= (↑x.1 : Int)) &&
 decide ((↑x.1 : Int) < (↑x.2.2.2.1.length : Int))) (ldIS .i64 (List.map z6h x.2.2.2.1) (Int.toNat (↑x.1 : Int) * 1) fun n110 => needS (z6m l5) (ldIS .i64 c6 1 fun (n111
 : Int) => needS (decide (0 <= n111) && decide (n111 < (↑(z6j i) : Int))) (hgetS x.2.1 x.2.2.1 fun r112 => ldIS .i64 r112 ((0 : Nat) + n111.toNat * 1) fun n113 => needS (decide (0 <= n110) && decide (n110
 < (↑(z6j i) : Int))) (hgetS x.2.1 x.2.2.1 fun r114 => needS (Nat.ble ((0 : Nat) + n110.toNat * 1 + (1 : Nat)) r114.length) (∃ (x_1 : Nat × Heap × Nat × List Int × List Int), some (z6d l) = some (z6d l) /\ some (z6f i) = some (z6f
 i) /\ some (z6b args) = some (z6b args) /\ some (TV.v (.vslice none 0 x.2.2.2.1.length 1 (List.map z6h x.2.2.2.1))) = some (z6c x_1) /\ some (TV.v (.hslice x.2.2.1 0 (z6j
 i) 1)) = some (z6e i x_1) /\ some (TV.v (.int .i64 (IntKind.wrap .i64 ((↑x.1 : Int) + 1)))) = some (z6g x_1) /\ Heap.set x.2.1 x.2.2.1 (IObj.cells (List.take ((0 : Nat) + n110.toNat * 1) r114 ++ [IV.int .i64
 n113] ++ List.drop ((0 : Nat) + n110.toNat * 1 + (1 : Nat)) r114)) = x_1.2.1 /\ (z6a l i args x_1) /\ List.length (z6i x_1) - x_1.1 < x.2.2.2.1.length - x.1)))))) (needS (decide (0 <= (↑x.1 : Int)) && decide
 ((↑x.1 : Int) < (↑x.2.2.2.1.length : Int))) (ldIS .i64 (List.map z6h x.2.2.2.1) (Int.toNat (↑x.1 : Int) * 1) fun n115 => needS (z6o l5) (ldIS .i64 c6 2 fun (n116 : Int)
 => needS (decide (0 <= n116) && decide (n116 < (↑(z6j i) : Int))) (hgetS x.2.1 x.2.2.1 fun r117 => ldIS .i64 r117 ((0 : Nat) + n116.toNat * 1) fun n118 => needS (decide (0 <= n115) && decide (n115 < (↑(z6j
 i) : Int))) (hgetS x.2.1 x.2.2.1 fun r119 => needS (Nat.ble ((0 : Nat) + n115.toNat * 1 + (1 : Nat)) r119.length) (∃ (x_1 : Nat × Heap × Nat × List Int × List Int), some (z6d l) = some (z6d l) /\ some (z6f i) = some (z6f i) /\
 some (z6b args) = some (z6b args) /\ some (TV.v (.vslice none 0 x.2.2.2.1.length 1 (List.map z6h x.2.2.2.1))) = some (z6c x_1) /\ some (TV.v (.hslice x.2.2.1 0 (z6j i) (1
 : Nat))) = some (z6e i x_1) /\ some (TV.v (.int .i64 (IntKind.wrap .i64 ((↑x.1 : Int) + 1)))) = some (z6g x_1) /\ Heap.set x.2.1 x.2.2.1 (IObj.cells (List.take ((0 : Nat) + n115.toNat * 1) r119 ++ [IV.int .i64
 n118] ++ List.drop ((0 : Nat) + n115.toNat * 1 + (1 : Nat)) r119)) = x_1.2.1 /\ (z6a l i args x_1) /\ List.length (z6i x_1) - x_1.1 < x.2.2.2.1.length - x.1))))))))) (Q z6l h))))))))) (needS (decide (0 <= (↑i : Int))
 && decide ((↑i : Int) < (↑(z6j i) : Int))) (hgetS x.2.1 x.2.2.1 fun r120 => ldIS .i64 r120 ((0 : Nat) + Int.toNat (↑i : Int) * 1) fun n121 => Q (.tuple [.int .i64 n121, IV.bool true]) h)))))) := by kernel_rfl
set_option maxHeartbeats 4000000 in
theorem sValu : ∀ xs h Q, kValu xs h Q -> CallW env 6 xs h Q := by
 intro xs h Q hk
 unfold kValu at hk
 split at hk
 ·rename_i e1 n1 c1 j e2 n2 c2
  obtain ⟨l, i, args, ⟨rfl, rfl, rfl, rfl, rfl⟩, hb, hk⟩ := hk
  refine dF_run (okDepe) (vValu l i args e1 e2 h Q) ?_
  delta z6a z6b z6c z6d z6e z6f z6g z6h z6i z6j z6k z6l z6m z6n z6o
  have tn : ∀ x : Nat, (x : Int).toNat = x := Int.toNat_natCast
  obtain ⟨hw, hil, hal⟩ := hb
  have hln := hw.ln
  have hwr : IntKind.i64.wrap ((i : Int) + 1) = ((i + 1 : Nat) : Int) := by rw [IntWalk.i64_in _ (by omega)]; rfl
  rw [hwr]
  simp only [tn, Nat.zero_add, Nat.mul_one, Bool.true_and]
  refine needS_intro (by simp only [pureL, pureB, pureL_cN, pureL_ints, Bool.and_true]) ⟨l, ⟨rfl, rfl⟩, ⟨fun x hx => by have := hw.ok x hx; exact ⟨by omega, this.2.2.2⟩, hln.2, by omega, by omega⟩, brS_intro (fun _ => hk 0 false (fun e => by cases e)) (fun _ => ⟨l, i, ⟨rfl, rfl, rfl⟩, ⟨hw, hil⟩, fun c hd => needS_intro (by simp; omega) ⟨⟨(0, _, 0, c, List.replicate (i + 1) 0), (by first | rfl | exact True.intro), (by first | rfl | exact True.intro), (by first | rfl | exact True.intro), (by first | rfl | exact True.intro), (by first | rfl | exact True.intro), (by first | rfl | exact True.intro), (by first | rfl | exact True.intro), ⟨⟨Nat.zero_le _, hd⟩, ⟨by simp, fun q x hq => absurd hq (Nat.not_lt_zero _)⟩, ?_⟩, trivial⟩, ?_⟩⟩)⟩
  ·show IObj.cells (repl _ _) = _
   rw [repl_zero]
  rintro ⟨j, g, id, c, out⟩ _ ⟨⟨hj, hd⟩, hv, hg⟩
  dsimp only at hj hd hv hg ⊢
  have hol := hv.1
  refine brS_intro (fun c1 => ?_) (fun c1 => ?_)
  case refine_2 =>
   rw [decide_eq_false_iff_not] at c1
   obtain ⟨p, hp⟩ := hd.2.2.1
   have hpl := (List.getElem?_eq_some_iff.1 hp).1
   have h1 := hv.2 p (i : Int) (by omega) hp
   rw [tn] at h1
   obtain ⟨h2, h3⟩ := List.getElem?_eq_some_iff.1 h1
   exact needS_intro (by simp; omega) (hget_intro hg (ldI1 h2 rfl (hk _ true (fun _ => h3))))
  rw [decide_eq_true_eq] at c1
  have hjc : j < c.length := by omega
  have hx := hd.1 _ (List.getElem_mem hjc)
  have hcj := List.getElem?_eq_getElem hjc
  have hxl : (c[j]).toNat < l.length := by omega
  have hli := List.getElem?_eq_getElem hxl
  have hb : (c[j]).toNat < out.length := by omega
  have hn := hw.ok _ (List.getElem_mem hxl)
  have hnk := hw.nkl hxl
  have vat := vl_at (args := args) hw.back hli hnk
  have fin := hv.set hcj hb
  have hcl : c.length <= 9000000000000000000 -> IntKind.i64.wrap ((j : Int) + 1) = ((j + 1 : Nat) : Int) := fun h => by rw [IntWalk.i64_in _ (by omega)]; rfl
  have hcn : c.length <= i + 1 := DepOk.len hd
  have hwj : some (TV.v (IV.int IntKind.i64 (IntKind.i64.wrap ((j : Int) + 1)))) = some (TV.v (IV.int IntKind.i64 ((j + 1 : Nat) : Int))) := by rw [hcl (by omega)]
  have hble : Nat.ble ((c[j]).toNat + 1) (out.map (IV.int .i64)).length = true := by rw [Nat.ble_eq]; simp; omega
  have heq : ∀ v, v = vl args l (c[j]).toNat -> Heap.set g id (IObj.cells (List.take (c[j]).toNat (out.map (IV.int .i64)) ++ [IV.int .i64 v] ++ List.drop ((c[j]).toNat + 1) (out.map (IV.int .i64)))) = Heap.set g id (IObj.cells ((out.set (c[j]).toNat (vl args l (c[j]).toNat)).map (IV.int .i64))) := fun v hv => by rw [setI hb, hv]
  have kid : ∀ m, (hm : m < l[(c[j]).toNat].ks.length) -> ∃ (q1 : (l[(c[j]).toNat].ks[m]).toNat < out.length) (q2 : 0 <= l[(c[j]).toNat].ks[m] /\ l[(c[j]).toNat].ks[m] < i + 1), kv args l l[(c[j]).toNat] m = out[(l[(c[j]).toNat].ks[m]).toNat] := fun m hm => by
   obtain ⟨p, hp, hcp⟩ := hd.2.1 j _ _ hcj hli _ (List.getElem_mem hm)
   have h1 := hv.2 p _ hp hcp
   obtain ⟨h2, h3⟩ := List.getElem?_eq_some_iff.1 h1
   obtain ⟨h4, h5⟩ := List.getElem?_eq_some_iff.1 hcp
   have h6 := hd.1 _ (List.getElem_mem h4)
   rw [h5] at h6
   refine ⟨h2, by omega, ?_⟩
   unfold kv
   rw [h3, List.getD_eq_getElem?_getD, List.getElem?_eq_getElem hm]
   rfl
  refine needS_intro (by simp; omega) (ldI1 hjc rfl (needS_intro (and_dec ⟨by omega, by omega⟩) (ldNd hxl rfl ?_)))
  by_cases o1 : l[(c[j]).toNat].op = 1
  ·rw [if_pos o1] at vat
   exact brS_intro (fun _ => needS_intro (by simp; omega) (ldI1 hjc rfl (needS_intro (and_dec ⟨by omega, by omega⟩) (hget_intro hg (needS_intro hble ⟨(j + 1, g.set id (.cells ((out.set (c[j]).toNat (vl args l (c[j]).toNat)).map (IV.int .i64))), id, c, out.set (c[j]).toNat (vl args l (c[j]).toNat)), (by first | rfl | exact True.intro), (by first | rfl | exact True.intro), (by first | rfl | exact True.intro), (by first | rfl | exact True.intro), (by first | rfl | exact True.intro), hwj, heq _ (vat.symm), ⟨⟨hjc, hd⟩, fin, get_set_eq⟩, by dsimp only; omega⟩))))) (fun c2 => by rw [beq_eq_false_iff_ne] at c2; exact absurd o1 c2)
  refine brS_intro (fun c2 => absurd (beq_iff_eq.1 c2) o1) (fun _ => ?_)
  rw [if_neg o1] at vat
  by_cases o2 : l[(c[j]).toNat].op = 2
  ·rw [if_pos o2] at vat
   have him : 0 <= l[(c[j]).toNat].im := by
    have h := (wg_node hw hli).2.2.2
    unfold vImm at h
    rw [decide_eq_true_eq, o2] at h
    have : mxI 2 = 5 := by decide
    omega
   refine brS_intro (fun _ => brS_intro (fun c3 => ?_) (fun _ => ?_)) (fun c2 => by rw [beq_eq_false_iff_ne] at c2; exact absurd o2 c2)
   ·rw [decide_eq_true_eq] at c3
    have hal2 : (l[(c[j]).toNat].im).toNat < args.length := by omega
    rw [List.getD_eq_getElem?_getD, List.getElem?_eq_getElem hal2] at vat
    exact needS_intro (by simp; omega) (ldI1 hjc rfl (needS_intro (and_dec ⟨him, by omega⟩) (ldI1 hal2 rfl (needS_intro (and_dec ⟨by omega, by omega⟩) (hget_intro hg (needS_intro hble ⟨(j + 1, g.set id (.cells ((out.set (c[j]).toNat (vl args l (c[j]).toNat)).map (IV.int .i64))), id, c, out.set (c[j]).toNat (vl args l (c[j]).toNat)), (by first | rfl | exact True.intro), (by first | rfl | exact True.intro), (by first | rfl | exact True.intro), (by first | rfl | exact True.intro), (by first | rfl | exact True.intro), hwj, heq _ (vat.symm), ⟨⟨hjc, hd⟩, fin, get_set_eq⟩, by dsimp only; omega⟩))))))
   ·rw [o2]
    exact brS_intro (fun c3 => absurd c3 (by decide)) (fun _ => brS_intro (fun c3 => absurd c3 (by decide)) (fun _ => brS_intro (fun c3 => absurd c3 (by decide)) (fun _ => brS_intro (fun c3 => absurd c3 (by decide)) (fun _ => hk 0 false (fun e => by cases e)))))
  refine brS_intro (fun c2 => absurd (beq_iff_eq.1 c2) o2) (fun _ => ?_)
  rw [if_neg o2] at vat
  by_cases o4 : 4 <= l[(c[j]).toNat].op /\ l[(c[j]).toNat].op <= 19
  ·rw [if_pos o4] at vat
   have h2 : 2 <= l[(c[j]).toNat].ks.length := by unfold nk at hnk; rw [if_pos o4] at hnk; exact hnk
   obtain ⟨a1, a2, a3⟩ := kid 0 (by omega)
   obtain ⟨b1, b2, b3⟩ := kid 1 (by omega)
   rw [a3, b3] at vat
   exact brS_intro (fun _ => brS_intro (fun _ => needS_intro (by simp; omega) (ldI1 hjc rfl (needS_intro (by simp; omega) (ldI1 (i := 0) (by omega) rfl (needS_intro (and_dec ⟨by omega, by omega⟩) (hget_intro hg (ldI1 a1 rfl (needS_intro (by simp; omega) (ldI1 (i := 1) (by omega) rfl (needS_intro (and_dec ⟨by omega, by omega⟩) (hget_intro hg (ldI1 b1 rfl (needS_intro (and_dec ⟨by omega, by omega⟩) (hget_intro hg (needS_intro hble ⟨(j + 1, g.set id (.cells ((out.set (c[j]).toNat (vl args l (c[j]).toNat)).map (IV.int .i64))), id, c, out.set (c[j]).toNat (vl args l (c[j]).toNat)), (by first | rfl | exact True.intro), (by first | rfl | exact True.intro), (by first | rfl | exact True.intro), (by first | rfl | exact True.intro), (by first | rfl | exact True.intro), hwj, heq _ (vat.symm), ⟨⟨hjc, hd⟩, fin, get_set_eq⟩, by dsimp only; omega⟩))))))))))))))) (fun c3 => absurd o4.2 (of_decide_eq_false c3))) (fun c3 => absurd o4.1 (of_decide_eq_false c3))
  rw [if_neg o4] at vat
  refine brS_intro (fun c3 => brS_intro (fun c4 => absurd ⟨of_decide_eq_true c3, of_decide_eq_true c4⟩ o4) (fun _ => ?_)) (fun c3 => ?_)
  ·by_cases o20 : l[(c[j]).toNat].op = 20 \/ l[(c[j]).toNat].op = 21
   ·rw [if_pos o20] at vat
    have h1 : 1 <= l[(c[j]).toNat].ks.length := by unfold nk at hnk; rw [if_neg o4, if_pos o20] at hnk; exact hnk
    obtain ⟨a1, a2, a3⟩ := kid 0 (by omega)
    rw [a3] at vat
    refine brS_intro (fun _ => needS_intro (by simp; omega) (ldI1 hjc rfl (needS_intro (by simp; omega) (ldI1 (i := 0) (by omega) rfl (needS_intro (and_dec ⟨by omega, by omega⟩) (hget_intro hg (ldI1 a1 rfl (needS_intro (and_dec ⟨by omega, by omega⟩) (hget_intro hg (needS_intro hble ⟨(j + 1, g.set id (.cells ((out.set (c[j]).toNat (vl args l (c[j]).toNat)).map (IV.int .i64))), id, c, out.set (c[j]).toNat (vl args l (c[j]).toNat)), (by first | rfl | exact True.intro), (by first | rfl | exact True.intro), (by first | rfl | exact True.intro), (by first | rfl | exact True.intro), (by first | rfl | exact True.intro), hwj, heq _ (vat.symm), ⟨⟨hjc, hd⟩, fin, get_set_eq⟩, by dsimp only; omega⟩)))))))))) (fun c4 => brS_intro (fun _ => needS_intro (by simp; omega) (ldI1 hjc rfl (needS_intro (by simp; omega) (ldI1 (i := 0) (by omega) rfl (needS_intro (and_dec ⟨by omega, by omega⟩) (hget_intro hg (ldI1 a1 rfl (needS_intro (and_dec ⟨by omega, by omega⟩) (hget_intro hg (needS_intro hble ⟨(j + 1, g.set id (.cells ((out.set (c[j]).toNat (vl args l (c[j]).toNat)).map (IV.int .i64))), id, c, out.set (c[j]).toNat (vl args l (c[j]).toNat)), (by first | rfl | exact True.intro), (by first | rfl | exact True.intro), (by first | rfl | exact True.intro), (by first | rfl | exact True.intro), (by first | rfl | exact True.intro), hwj, heq _ (vat.symm), ⟨⟨hjc, hd⟩, fin, get_set_eq⟩, by dsimp only; omega⟩)))))))))) (fun c5 => ?_))
    rw [beq_eq_false_iff_ne] at c4 c5
    rcases o20 with q | q <;> contradiction
   ·rw [if_neg o20] at vat
    refine brS_intro (fun c4 => absurd (.inl (beq_iff_eq.1 c4)) o20) (fun _ => brS_intro (fun c4 => absurd (.inr (beq_iff_eq.1 c4)) o20) (fun _ => brS_intro (fun c4 => ?_) (fun _ => hk 0 false (fun e => by cases e))))
    have o22 : l[(c[j]).toNat].op = 22 := beq_iff_eq.1 c4
    rw [if_pos o22] at vat
    have h3 : 3 <= l[(c[j]).toNat].ks.length := by unfold nk at hnk; rw [if_neg o4, if_neg o20, if_pos o22] at hnk; exact hnk
    obtain ⟨a1, a2, a3⟩ := kid 0 (by omega)
    obtain ⟨b1, b2, b3⟩ := kid 1 (by omega)
    obtain ⟨d1, d2, d3⟩ := kid 2 (by omega)
    rw [a3, b3, d3] at vat
    refine needS_intro (by simp; omega) (ldI1 (i := 0) (by omega) rfl (needS_intro (and_dec ⟨by omega, by omega⟩) (hget_intro hg (ldI1 a1 rfl (brS_intro (fun c5 => ?_) (fun c5 => ?_))))))
    ·rw [bne_iff_ne] at c5
     rw [if_pos c5] at vat
     exact needS_intro (by simp; omega) (ldI1 hjc rfl (needS_intro (by simp; omega) (ldI1 (i := 1) (by omega) rfl (needS_intro (and_dec ⟨by omega, by omega⟩) (hget_intro hg (ldI1 b1 rfl (needS_intro (and_dec ⟨by omega, by omega⟩) (hget_intro hg (needS_intro hble ⟨(j + 1, g.set id (.cells ((out.set (c[j]).toNat (vl args l (c[j]).toNat)).map (IV.int .i64))), id, c, out.set (c[j]).toNat (vl args l (c[j]).toNat)), (by first | rfl | exact True.intro), (by first | rfl | exact True.intro), (by first | rfl | exact True.intro), (by first | rfl | exact True.intro), (by first | rfl | exact True.intro), hwj, heq _ (vat.symm), ⟨⟨hjc, hd⟩, fin, get_set_eq⟩, by dsimp only; omega⟩)))))))))
    ·rw [bne_eq_false_iff_eq] at c5
     rw [if_neg (fun q => q c5)] at vat
     exact needS_intro (by simp; omega) (ldI1 hjc rfl (needS_intro (by simp; omega) (ldI1 (i := 2) (by omega) rfl (needS_intro (and_dec ⟨by omega, by omega⟩) (hget_intro hg (ldI1 d1 rfl (needS_intro (and_dec ⟨by omega, by omega⟩) (hget_intro hg (needS_intro hble ⟨(j + 1, g.set id (.cells ((out.set (c[j]).toNat (vl args l (c[j]).toNat)).map (IV.int .i64))), id, c, out.set (c[j]).toNat (vl args l (c[j]).toNat)), (by first | rfl | exact True.intro), (by first | rfl | exact True.intro), (by first | rfl | exact True.intro), (by first | rfl | exact True.intro), (by first | rfl | exact True.intro), hwj, heq _ (vat.symm), ⟨⟨hjc, hd⟩, fin, get_set_eq⟩, by dsimp only; omega⟩)))))))))
  ·have n4 : ¬ 4 <= l[(c[j]).toNat].op := of_decide_eq_false c3
   exact brS_intro (fun c4 => by rw [beq_iff_eq] at c4; omega) (fun _ => brS_intro (fun c4 => by rw [beq_iff_eq] at c4; omega) (fun _ => brS_intro (fun c4 => by rw [beq_iff_eq] at c4; omega) (fun _ => hk 0 false (fun e => by cases e))))
 ·exact hk.elim
def cValu := addC 6 kValu cDepe
theorem okValu : Sound env cValu := sound_add sValu (okDepe)
end Go.Proofs.YtgfllfgdojiioaaGreat
