import Derived.Test.YtlenjfbmpekabaaDoorE30
import Derived.KernelRfl
import Derived.Test.YtlenjfbmpekabaaDoorU30
section
set_option linter.unusedVariables false
set_option linter.unusedSimpArgs false
namespace Go.Proofs.YtlenjfbmpekabaaDoor
open Go.Pv Go.M29 Go.M30
def kRDecode (xs : List IV) (h : Heap) (K : IV -> Heap -> Prop) : Prop := match xs with
 | [.vslice none e1 n1 1 c1, .int .i64 k] => ∃ w : List Int, (n1 = w.length /\ c1 = w.map (IV.int .u32)) /\ ((∀ x ∈ w, u32b x) /\ (w.length : Int) <= 4611686018427387904 /\ -9223372036854775808 <= k) /\ K (.tuple [.agg [.int .i64 (decR w k).1.op, .int .i64 (decR w k).1.a, .int .i64 (decR w k).1.b, .int .i64 (decR w k).1.c, .int .i64 (decR w k).1.n], .int .i64 (decR w k).2.1, .int .i64 (decR w k).2.2]) h
 | _ => False
noncomputable def z35a (w : List Int) (k : Int) := List.getD w k.toNat 0 % (64 : Int)
noncomputable def z35b  := [IV.int .i64 0, IV.int .i64 0, IV.int .i64 0, IV.int .i64 0, IV.int .i64 0]
noncomputable def z35d (w : List Int) (k : Int) := if fA (fmI (z35a w k)) = true then List.getD w k.toNat 0 / (64 : Int) % (8 : Int) else (0 : Int)
noncomputable def z35i (w : List Int) (k : Int) := TV.v (.int .u32 (List.getD w k.toNat 0))
noncomputable abbrev z35w (w : List Int) (k : Int) := 0 <= k /\ k < (↑w.length : Int)
noncomputable abbrev z35j (w : List Int) (k : Int) := (z35w w k) /\ okI (z35a w k) = true
noncomputable def z35m (w : List Int) (k : Int) := TV.v (.int .i64 (fmI (z35a w k)))
noncomputable def z35n  := TV.l 4 0
noncomputable def z35o  := TV.l 8 0
noncomputable def z35p (k : Int) := TV.v (.int .i64 k)
noncomputable def z35f (w : List Int) (k : Int) := if fB (fmI (z35a w k)) = true then List.getD w k.toNat 0 / (512 : Int) % (8 : Int) else (0 : Int)
noncomputable def z35t (w : List Int) (k : Int) := [IV.int .i64 (z35a w k), IV.int .i64 (z35d w k), IV.int .i64 (z35f w k), IV.int .i64 0, IV.int .i64 0]
noncomputable abbrev z35c (w : List Int) (k : Int) := some (TV.v (vW w)) = some (TV.v (vW w)) /\ some (z35p k) = some (z35p k) /\ some z35n = some z35n /\ some (z35i w k) = some (z35i w k) /\ some z35o = some z35o /\ some (z35m w k) = some (z35m w k) /\ some z35b = some z35b /\ some [IV.int .i64 (z35a w k), IV.int .i64 (z35d w k), IV.int .i64 (IntKind.wrap .i64 (bvAnd .u32 (Int.fdiv (List.getD w k.toNat 0) (512 : Int)) 7)), IV.int .i64 0, IV.int .i64 0] = some (z35t w k) /\ Heap.mk PT.nil 0 = Heap.mk PT.nil 0 /\ (z35j w k) /\ True
noncomputable def z35h (w : List Int) (k : Int) := if fmI (z35a w k) = 4 then List.getD w k.toNat 0 / (4096 : Int) % (8 : Int) else (0 : Int)
noncomputable def z35e (w : List Int) (k : Int) := [IV.int .i64 (z35a w k), IV.int .i64 (z35d w k), IV.int .i64 (z35f w k), IV.int .i64 (z35h w k), IV.int .i64 (if fmI (z35a w k) = 6 then wide (List.getD w (k.toNat + 1) 0) (List.getD w (k.toNat + 2) 0) else decN (List.getD w k.toNat 0) (fmI (z35a w k)))]
noncomputable def z35r (n0 : Int) := IntKind.wrap .i64 (bvAnd .u32 n0 63)
noncomputable def z35u (w : List Int) (k : Int) := [IV.int .i64 (z35a w k), IV.int .i64 (z35d w k), IV.int .i64 0, IV.int .i64 0, IV.int .i64 0]
noncomputable abbrev z35g (w : List Int) (k n0 : Int) := some (TV.v (vW w)) = some (TV.v (vW w)) /\ some (z35p k) = some (z35p k) /\ some z35n = some z35n /\ some (TV.v (.int .u32 n0)) = some (z35i w k) /\ some z35o = some z35o /\ some (TV.v (.int .i64 (fmI (z35r n0)))) = some (z35m w k) /\ some z35b = some z35b /\ some [IV.int .i64 (z35r n0), IV.int .i64 0, IV.int .i64 0, IV.int .i64 0, IV.int .i64 0] = some (z35u w k) /\ Heap.mk PT.nil 0 = Heap.mk PT.nil 0 /\ (z35j w k) /\ True
noncomputable def z35k (w : List Int) (k : Int) := [IV.int .i64 (z35a w k), IV.int .i64 (z35d w k), IV.int .i64 (z35f w k), IV.int .i64 (z35h w k), IV.int .i64 (decN (List.getD w k.toNat 0) (fmI (z35a w k)))]
noncomputable def z35l  := IV.tuple [.agg z35b, IV.int .i64 0, IV.int .i64 204]
noncomputable def z35q (w : List Int) (k : Int) := [IV.int .i64 (z35a w k), IV.int .i64 (z35d w k), IV.int .i64 (z35f w k), IV.int .i64 (z35h w k), IV.int .i64 0]
noncomputable def z35s (w : List Int) (k : Int) := Int.fdiv (List.getD w k.toNat 0) ((2 : Int) ^ min (Int.toNat (atI (fmI (z35a w k)))) (32 : Nat))
noncomputable abbrev z35v (w : List Int) (k : Int) := fmI (z35a w k) = 6 -> k.toNat + 3 <= w.length
noncomputable def z35x (w : List Int) (k : Int) := if fmI (z35a w k) = 6 then (3 : Int) else (1 : Int)
set_option maxRecDepth 100000 in
theorem vRDecode (w : List Int) (e1 : Nat) (k : Int) (h : Heap) (Q : IV -> Heap -> Prop) : dF (stdS cDecode) env 35 noU noI (icS (icA 11 (atP (((0 <= k /\ k < w.length) /\ okI ((w.getD k.toNat 0) % 64) = true)) [(0, .v (.vslice none 0 (w).length 1 ((w).map (IV.int .u32)))), (1, .v (.int .i64 k)), (4, .l 4 0), (7, .v (.int .u32 (w.getD k.toNat 0))), (8, .l 8 0), (9, .v (.int .i64 (fmI ((w.getD k.toNat 0) % 64))))] [(4, [.int .i64 0, .int .i64 0, .int .i64 0, .int .i64 0, .int .i64 0]), (8, [.int .i64 ((w.getD k.toNat 0) % 64), .int .i64 (if fA (fmI ((w.getD k.toNat 0) % 64)) then (w.getD k.toNat 0) / 64 % 8 else 0), .int .i64 0, .int .i64 0, .int .i64 0])] Heap.empty) (icA 13 (atP (((0 <= k /\ k < w.length) /\ okI ((w.getD k.toNat 0) % 64) = true)) [(0, .v (.vslice none 0 (w).length 1 ((w).map (IV.int .u32)))), (1, .v (.int .i64 k)), (4, .l 4 0), (7, .v (.int .u32 (w.getD k.toNat 0))), (8, .l 8 0), (9, .v (.int .i64 (fmI ((w.getD k.toNat 0) % 64))))] [(4, [.int .i64 0, .int .i64 0, .int .i64 0, .int .i64 0, .int .i64 0]), (8, [.int .i64 ((w.getD k.toNat 0) % 64), .int .i64 (if fA (fmI ((w.getD k.toNat 0) % 64)) then (w.getD k.toNat 0) / 64 % 8 else 0), .int .i64 (if fB (fmI ((w.getD k.toNat 0) % 64)) then (w.getD k.toNat 0) / 512 % 8 else 0), .int .i64 0, .int .i64 0])] Heap.empty) (icA 15 (atP (((0 <= k /\ k < w.length) /\ okI ((w.getD k.toNat 0) % 64) = true)) [(0, .v (.vslice none 0 (w).length 1 ((w).map (IV.int .u32)))), (1, .v (.int .i64 k)), (4, .l 4 0), (7, .v (.int .u32 (w.getD k.toNat 0))), (8, .l 8 0), (9, .v (.int .i64 (fmI ((w.getD k.toNat 0) % 64))))] [(4, [.int .i64 0, .int .i64 0, .int .i64 0, .int .i64 0, .int .i64 0]), (8, [.int .i64 ((w.getD k.toNat 0) % 64), .int .i64 (if fA (fmI ((w.getD k.toNat 0) % 64)) then (w.getD k.toNat 0) / 64 % 8 else 0), .int .i64 (if fB (fmI ((w.getD k.toNat 0) % 64)) then (w.getD k.toNat 0) / 512 % 8 else 0), .int .i64 (if fmI ((w.getD k.toNat 0) % 64) = 4 then (w.getD k.toNat 0) / 4096 % 8 else 0), .int .i64 0])] Heap.empty) (icA 20 (atP (((0 <= k /\ k < w.length) /\ okI ((w.getD k.toNat 0) % 64) = true)) [(0, .v (.vslice none 0 (w).length 1 ((w).map (IV.int .u32)))), (1, .v (.int .i64 k)), (4, .l 4 0), (7, .v (.int .u32 (w.getD k.toNat 0))), (8, .l 8 0), (9, .v (.int .i64 (fmI ((w.getD k.toNat 0) % 64))))] [(4, [.int .i64 0, .int .i64 0, .int .i64 0, .int .i64 0, .int .i64 0]), (8, [.int .i64 ((w.getD k.toNat 0) % 64), .int .i64 (if fA (fmI ((w.getD k.toNat 0) % 64)) then (w.getD k.toNat 0) / 64 % 8 else 0), .int .i64 (if fB (fmI ((w.getD k.toNat 0) % 64)) then (w.getD k.toNat 0) / 512 % 8 else 0), .int .i64 (if fmI ((w.getD k.toNat 0) % 64) = 4 then (w.getD k.toNat 0) / 4096 % 8 else 0), .int .i64 (decN (w.getD k.toNat 0) (fmI ((w.getD k.toNat 0) % 64)))])] Heap.empty) (ic1 26 (atP ((((0 <= k /\ k < w.length) /\ okI ((w.getD k.toNat 0) % 64) = true) /\ (fmI ((w.getD k.toNat 0) % 64) = 6 -> k.toNat + 3 <= w.length))) [(0, .v (.vslice none 0 (w).length 1 ((w).map (IV.int .u32)))), (1, .v (.int .i64 k)), (4, .l 4 0), (7, .v (.int .u32 (w.getD k.toNat 0))), (8, .l 8 0), (12, .v (.int .i64 (if fmI ((w.getD k.toNat 0) % 64) = 6 then 3 else 1)))] [(4, [.int .i64 0, .int .i64 0, .int .i64 0, .int .i64 0, .int .i64 0]), (8, [.int .i64 ((w.getD k.toNat 0) % 64), .int .i64 (if fA (fmI ((w.getD k.toNat 0) % 64)) then (w.getD k.toNat 0) / 64 % 8 else 0), .int .i64 (if fB (fmI ((w.getD k.toNat 0) % 64)) then (w.getD k.toNat 0) / 512 % 8 else 0), .int .i64 (if fmI ((w.getD k.toNat 0) % 64) = 4 then (w.getD k.toNat 0) / 4096 % 8 else 0), .int .i64 (dI w k).n])] Heap.empty))))))) [.vslice none e1 (w).length 1 ((w).map (IV.int .u32)), .int .i64 k] h Q = (
 needS (pureL [vW w, IV.int .i64 k]) (brS (decide (k < 0)) (Q z35l h) (brS (decide (k >= (↑w.length : Int))) (Q z35l h) (needS (decide (0 <= k) && decide (k < (↑w.length : Int))) (ldIS .u32 (List.map (IV.int .u32) w) (k.toNat * 1) fun (n0 :
 Int) => brS (fmI (z35r n0) == 0) (Q z35l h) (brS (fmI (z35r n0) != 1) (brS (fmI (z35r n0) != 8) (some (TV.v (vW w)) = some (TV.v (vW w)) /\ some (z35p k) = some (z35p k) /\ some z35n = some z35n /\ some (TV.v (.int .u32 n0)) = some (z35i w k) /\ some z35o = some z35o /\ some
 (TV.v (.int .i64 (fmI (z35r n0)))) = some (z35m w k) /\ some z35b = some z35b /\ some [IV.int .i64 (z35r n0), IV.int .i64 (IntKind.wrap .i64 (bvAnd .u32 (Int.fdiv n0 (64 : Int)) 7)), IV.int .i64 0, IV.int .i64 0, IV.int .i64
 (0 : Int)] = some (z35u w k) /\ Heap.mk PT.nil 0 = Heap.mk PT.nil 0 /\ (z35j w k) /\ True) (z35g w k n0)) (z35g w k n0))))) /\ (∀ (x : Unit) (b : FF), (z35w w k) /\ okI (z35a w k) = true -> brS (fmI (z35a w k) == 3) (z35c w k) (brS (fmI (z35a w k) == 4) (z35c w k) (brS (fmI
 (z35a w k) == 7) (z35c w k) (some (TV.v (vW w)) = some (TV.v (vW w)) /\ some (z35p k) = some (z35p k) /\ some z35n = some z35n /\ some (z35i w k) = some (z35i w k) /\ some z35o = some z35o /\ some (z35m w k) = some (z35m w k) /\ some z35b = some z35b /\ some (z35u w k) = some (z35t w k) /\ Heap.mk PT.nil
 (0 : Nat) = Heap.mk PT.nil 0 /\ (z35j w k) /\ True)))) /\ (∀ (x : Unit) (b : FF), (z35w w k) /\ okI (z35a w k) = true -> brS (fmI (z35a w k) == 4) (some (TV.v (vW w)) = some (TV.v (vW w)) /\ some (z35p k) = some (z35p k) /\ some z35n = some z35n /\ some (z35i w k) = some (z35i w k) /\ some z35o
 = some z35o /\ some (z35m w k) = some (z35m w k) /\ some z35b = some z35b /\ some [IV.int .i64 (z35a w k), IV.int .i64 (z35d w k), IV.int .i64 (z35f w k), IV.int .i64 (IntKind.wrap .i64 (bvAnd .u32 (Int.fdiv (List.getD w k.toNat 0) (4096 : Int)) (7
 : Int))), IV.int .i64 0] = some (z35q w k) /\ Heap.mk PT.nil 0 = Heap.mk PT.nil 0 /\ (z35j w k) /\ True) (some (TV.v (vW w)) = some (TV.v (vW w)) /\ some (z35p k) = some (z35p k) /\ some z35n = some z35n /\ some (z35i w k) = some (z35i w k) /\ some z35o = some z35o /\ some (z35m
 w k) = some (z35m w k) /\ some z35b = some z35b /\ some (z35t w k) = some (z35q w k) /\ Heap.mk PT.nil 0 = Heap.mk PT.nil 0 /\ (z35j w k) /\ True)) /\ (∀ (x : Unit) (b : FF), (z35w w k) /\ okI (z35a w k) = true -> brS (decide (nbI (fmI (z35a w k)) > 0)) (needS (decide (0 <= atI
 (fmI (z35a w k)))) (needS (decide (0 <= IntKind.wrap .u64 (nbI (fmI (z35a w k)) - 1))) (brS (decide (IntKind.wrap .i64 (z35s w k) >= IntKind.wrap .i64 ((1 : Int) * (2 : Int) ^ min (Int.toNat (IntKind.wrap .u64 (nbI (fmI (z35a w k)) - 1))) (64 : Nat))))
 (needS (decide (0 <= nbI (fmI (z35a w k)))) (some (TV.v (vW w)) = some (TV.v (vW w)) /\ some (z35p k) = some (z35p k) /\ some z35n = some z35n /\ some (z35i w k) = some (z35i w k) /\ some z35o = some z35o /\ some (z35m w k) = some (z35m w k) /\ some z35b = some z35b /\ some [IV.int .i64 (z35a
 w k), IV.int .i64 (z35d w k), IV.int .i64 (z35f w k), IV.int .i64 (z35h w k), IV.int .i64 (IntKind.wrap .i64 (IntKind.wrap .i64 (z35s w k) - IntKind.wrap .i64 ((1 : Int) * (2 : Int) ^ min (Int.toNat (nbI (fmI (z35a w k)))) (64 : Nat))))] = some (z35k w
 k) /\ Heap.mk PT.nil 0 = Heap.mk PT.nil 0 /\ (z35j w k) /\ True)) (some (TV.v (vW w)) = some (TV.v (vW w)) /\ some (z35p k) = some (z35p k) /\ some z35n = some z35n /\ some (z35i w k) = some (z35i w k) /\ some z35o = some z35o /\ some (z35m w k) = some (z35m w k) /\ some z35b = some z35b /\ some
 [IV.int .i64 (z35a w k), IV.int .i64 (z35d w k), IV.int .i64 (z35f w k), IV.int .i64 (z35h w k), IV.int .i64 (IntKind.wrap .i64 (z35s w k))] = some (z35k w k) /\ Heap.mk PT.nil 0 = Heap.mk PT.nil 0 /\ (z35j w k) /\ True)))) (some (TV.v (vW w)) =
 some (TV.v (vW w)) /\ some (z35p k) = some (z35p k) /\ some z35n = some z35n /\ some (z35i w k) = some (z35i w k) /\ some z35o = some z35o /\ some (z35m w k) = some (z35m w k) /\ some z35b = some z35b /\ some (z35q w k) = some (z35k w k) /\ Heap.mk PT.nil 0 = Heap.mk PT.nil 0 /\ (z35j w k) /\ True))
 /\ (∀ (x : Unit) (b : FF), (z35w w k) /\ okI (z35a w k) = true -> brS (fmI (z35a w k) == 6) (brS (decide (IntKind.wrap .i64 (k + 2) >= (↑w.length : Int))) (Q z35l h) (needS (decide (0 <= IntKind.wrap .i64 (k + 1)) && decide (IntKind.wrap .i64 (k
 + (1 : Int)) < (↑w.length : Int))) (ldIS .u32 (List.map (IV.int .u32) w) (Int.toNat (IntKind.wrap .i64 (k + 1)) * 1) fun n1 => needS (decide (0 <= IntKind.wrap .i64 (k + 2)) && decide (IntKind.wrap .i64 (k + 2) <
 (↑w.length : Int))) (ldIS .u32 (List.map (IV.int .u32) w) (Int.toNat (IntKind.wrap .i64 (k + 2)) * 1) fun n2 => some (TV.v (vW w)) = some (TV.v (vW w)) /\ some (z35p k) = some (z35p k) /\ some z35n = some z35n /\ some (z35i w k) = some (z35i w k) /\ some
 z35o = some z35o /\ some (TV.v (.int .i64 3)) = some (TV.v (.int .i64 (z35x w k))) /\ some z35b = some z35b /\ some [IV.int .i64 (z35a w k), IV.int .i64 (z35d w k), IV.int .i64 (z35f w k), IV.int .i64 (z35h w k), IV.int .i64 (IntKind.wrap .i64
 (bvOr .u64 (IntKind.wrap .u64 n1) (IntKind.wrap .u64 (IntKind.wrap .u64 n2 * 4294967296))))] = some (z35e w k) /\ Heap.mk PT.nil 0 = Heap.mk PT.nil 0 /\ ((z35j w k) /\ (z35v w k)) /\ True)))) (some (TV.v (vW w)) = some (TV.v (vW w)) /\ some (z35p k) = some
 (z35p k) /\ some z35n = some z35n /\ some (z35i w k) = some (z35i w k) /\ some z35o = some z35o /\ some (TV.v (.int .i64 1)) = some (TV.v (.int .i64 (z35x w k))) /\ some z35b = some z35b /\ some (z35k w k) = some (z35e w k) /\ Heap.mk PT.nil 0 = Heap.mk PT.nil 0 /\ ((z35j
 w k) /\ (z35v w k)) /\ True)) /\ (∀ (x : Unit) (b : FF), (z35j w k) /\ (z35v w k) -> ∃ (l : List In), ((1 : Nat) = l.length /\ (z35e w k) = List.flatMap cIns l) /\ (l.length <= 1000 /\ 1 <= l.length) /\ ((∀ (i : In), i ∈ l -> okIn i = true) -> ∀ (e : Nat) (h' : Heap), needS (true &&
 decide (0 < (↑(List.length (List.flatMap encW l)) : Int))) (ldIS .u32 (List.map (IV.int .u32) (List.flatMap encW l)) 0 fun n3 => brS (n3 != List.getD w k.toNat 0) (Q z35l h) (Q (.tuple [.agg (z35e w k), IV.int .i64 (z35x w k), IV.int .i64
 (0 : Int)]) h))) /\ ((¬∀ (i : In), i ∈ l -> okIn i = true) -> ∀ (h' : Heap), Q z35l h)) /\ True)) := by kernel_rfl
set_option maxHeartbeats 4000000 in
theorem sRDecode : ∀ xs h Q, kRDecode xs h Q -> CallW env 35 xs h Q := by
 intro xs h Q hk
 unfold kRDecode at hk
 split at hk
 ·rename_i e1 n1 c1 k
  obtain ⟨w, ⟨rfl, rfl⟩, hb, hk⟩ := hk
  refine dF_run (okDecode) (vRDecode w e1 k h Q) ?_
  delta vI vW z35a z35b z35c z35d z35e z35f z35g z35h z35i z35j z35k z35l z35m z35n z35o z35p z35q z35r z35s z35t z35u z35v z35w z35x
  obtain ⟨hw, hl, hk0⟩ := hb
  have hx := getD_b hw k.toNat
  have hx1 := getD_b hw (k.toNat + 1)
  have hx2 := getD_b hw (k.toNat + 2)
  refine needS_intro (by simp only [pureL, pureB, pureL_ints, Bool.and_true]) ⟨brS_intro (fun c1 => ?_) (fun c1 => brS_intro (fun c2 => ?_) (fun c2 => needS_intro (by simp at c1 c2; simp; omega) ?_)), ?_, ?_, ?_, ?_, ?_, trivial⟩
  ·simp only [decide_eq_true_eq] at c1
   rw [show decR w k = err from if_pos (.inl c1)] at hk
   exact hk
  ·simp only [decide_eq_true_eq] at c2
   rw [show decR w k = err from if_pos (.inr c2)] at hk
   exact hk
  ·simp only [decide_eq_false_iff_not] at c1 c2
   refine ldIS_x (i := k.toNat) (by omega) (by omega) ?_
   have f1 : ∀ z : Int, z.fdiv 64 = z / 64 := fun z => fdiv_eq _ _ (by omega)
   simp only [op_of, reg_of, f1]
   have hEr : okI (w.getD k.toNat 0 % 64) = false -> decR w k = err := fun c3 => by unfold decR; rw [if_neg (by omega), if_pos (.inl c3)]
   generalize w.getD k.toNat 0 = x at *
   refine brS_intro (fun c3 => ?_) (fun c3 => ?_)
   ·rw [beq_iff_eq, f_zero] at c3
    rw [hEr c3] at hk
    exact hk
   rw [beq_eq_false_iff_ne, ne_eq, f_zero, Bool.not_eq_false] at c3
   have hr := f_range c3
   have hA := fA_iff hr
   refine brS_intro (fun c4 => brS_intro (fun c5 => ?_) (fun c5 => ?_)) (fun c4 => ?_)
   all_goals (try rw [bne_iff_ne] at c4)
   all_goals (try rw [bne_iff_ne] at c5)
   all_goals (try rw [bne_eq_false_iff_eq] at c4)
   all_goals (try rw [bne_eq_false_iff_eq] at c5)
   ·have e : fA (fmI (x % 64)) = true := hA.2 ⟨c4, c5⟩
    refine ⟨(by first | rfl | trivial), (by first | rfl | trivial), (by first | rfl | trivial), (by first | rfl | trivial), (by first | rfl | trivial), (by first | rfl | trivial), (by first | rfl | trivial), ?_, (by first | rfl | trivial), ⟨⟨by omega, by omega⟩, c3⟩, trivial⟩
    simp only [e, if_true]
   ·have e : fA (fmI (x % 64)) = false := by rw [<- Bool.not_eq_true, hA]; omega
    refine ⟨(by first | rfl | trivial), (by first | rfl | trivial), (by first | rfl | trivial), (by first | rfl | trivial), (by first | rfl | trivial), (by first | rfl | trivial), (by first | rfl | trivial), ?_, (by first | rfl | trivial), ⟨⟨by omega, by omega⟩, c3⟩, trivial⟩
    simp [e]
   ·have e : fA (fmI (x % 64)) = false := by rw [<- Bool.not_eq_true, hA]; omega
    refine ⟨(by first | rfl | trivial), (by first | rfl | trivial), (by first | rfl | trivial), (by first | rfl | trivial), (by first | rfl | trivial), (by first | rfl | trivial), (by first | rfl | trivial), ?_, (by first | rfl | trivial), ⟨⟨by omega, by omega⟩, c3⟩, trivial⟩
    simp [e]
  ·intro _ _ hp
   obtain ⟨⟨c1, c2⟩, c3⟩ := hp
   have f1 : ∀ z : Int, z.fdiv 512 = z / 512 := fun z => fdiv_eq _ _ (by omega)
   simp only [reg_of, f1]
   generalize w.getD k.toNat 0 = x at *
   refine brS_intro (fun c4 => ?_) (fun c4 => brS_intro (fun c5 => ?_) (fun c5 => brS_intro (fun c6 => ?_) (fun c6 => ?_)))
   ·refine ⟨(by first | rfl | trivial), (by first | rfl | trivial), (by first | rfl | trivial), (by first | rfl | trivial), (by first | rfl | trivial), (by first | rfl | trivial), (by first | rfl | trivial), ?_, (by first | rfl | trivial), ⟨⟨by omega, by omega⟩, c3⟩, trivial⟩
    rw [beq_iff_eq] at c4; simp [c4, fB]
   ·refine ⟨(by first | rfl | trivial), (by first | rfl | trivial), (by first | rfl | trivial), (by first | rfl | trivial), (by first | rfl | trivial), (by first | rfl | trivial), (by first | rfl | trivial), ?_, (by first | rfl | trivial), ⟨⟨by omega, by omega⟩, c3⟩, trivial⟩
    rw [beq_iff_eq] at c5; simp [c5, fB]
   ·refine ⟨(by first | rfl | trivial), (by first | rfl | trivial), (by first | rfl | trivial), (by first | rfl | trivial), (by first | rfl | trivial), (by first | rfl | trivial), (by first | rfl | trivial), ?_, (by first | rfl | trivial), ⟨⟨by omega, by omega⟩, c3⟩, trivial⟩
    rw [beq_iff_eq] at c6; simp [c6, fB]
   ·refine ⟨(by first | rfl | trivial), (by first | rfl | trivial), (by first | rfl | trivial), (by first | rfl | trivial), (by first | rfl | trivial), (by first | rfl | trivial), (by first | rfl | trivial), ?_, (by first | rfl | trivial), ⟨⟨by omega, by omega⟩, c3⟩, trivial⟩
    simp [fB, c4, c5, c6]
  ·intro _ _ hp
   obtain ⟨⟨c1, c2⟩, c3⟩ := hp
   have f1 : ∀ z : Int, z.fdiv 4096 = z / 4096 := fun z => fdiv_eq _ _ (by omega)
   simp only [reg_of, f1]
   generalize w.getD k.toNat 0 = x at *
   refine brS_intro (fun c4 => ?_) (fun c4 => ?_)
   ·rw [beq_iff_eq] at c4
    refine ⟨(by first | rfl | trivial), (by first | rfl | trivial), (by first | rfl | trivial), (by first | rfl | trivial), (by first | rfl | trivial), (by first | rfl | trivial), (by first | rfl | trivial), ?_, (by first | rfl | trivial), ⟨⟨by omega, by omega⟩, c3⟩, trivial⟩
    simp [c4]
   ·rw [beq_eq_false_iff_ne] at c4
    refine ⟨(by first | rfl | trivial), (by first | rfl | trivial), (by first | rfl | trivial), (by first | rfl | trivial), (by first | rfl | trivial), (by first | rfl | trivial), (by first | rfl | trivial), ?_, (by first | rfl | trivial), ⟨⟨by omega, by omega⟩, c3⟩, trivial⟩
    simp [c4]
  ·intro _ _ hp
   obtain ⟨⟨c1, c2⟩, c3⟩ := hp
   generalize w.getD k.toNat 0 = x at *
   have hnb := nb_nonneg (fmI (x % 64))
   refine brS_intro (fun c4 => needS_intro (by simp [hnb]) (needS_intro (by rw [decide_eq_true_eq, Go.M30.u64w]; omega) (brS_intro (fun c5 => needS_intro (by simp [hnb]) ?_) (fun c5 => ?_)))) (fun c4 => ?_)
   ·rw [decide_eq_true_eq] at c4 c5
    refine ⟨(by first | rfl | trivial), (by first | rfl | trivial), (by first | rfl | trivial), (by first | rfl | trivial), (by first | rfl | trivial), (by first | rfl | trivial), (by first | rfl | trivial), ?_, (by first | rfl | trivial), ⟨⟨by omega, by omega⟩, c3⟩, trivial⟩
    rw [dec_ref hx c4, if_pos c5]
   ·rw [decide_eq_true_eq] at c4
    rw [decide_eq_false_iff_not] at c5
    refine ⟨(by first | rfl | trivial), (by first | rfl | trivial), (by first | rfl | trivial), (by first | rfl | trivial), (by first | rfl | trivial), (by first | rfl | trivial), (by first | rfl | trivial), ?_, (by first | rfl | trivial), ⟨⟨by omega, by omega⟩, c3⟩, trivial⟩
    rw [dec_ref hx c4, if_neg c5]
   ·rw [decide_eq_false_iff_not] at c4
    refine ⟨(by first | rfl | trivial), (by first | rfl | trivial), (by first | rfl | trivial), (by first | rfl | trivial), (by first | rfl | trivial), (by first | rfl | trivial), (by first | rfl | trivial), ?_, (by first | rfl | trivial), ⟨⟨by omega, by omega⟩, c3⟩, trivial⟩
    rw [decN_zero c4]
  ·intro _ _ hp
   obtain ⟨⟨c1, c2⟩, c3⟩ := hp
   refine brS_intro (fun c4 => ?_) (fun c4 => ?_)
   ·rw [beq_iff_eq] at c4
    have w2 : IntKind.i64.wrap (k + 2) = k + 2 := IntWalk.i64_in _ (by omega)
    have w1 : IntKind.i64.wrap (k + 1) = k + 1 := IntWalk.i64_in _ (by omega)
    rw [w2, w1]
    refine brS_intro (fun c5 => ?_) (fun c5 => ?_)
    ·rw [decide_eq_true_eq] at c5
     rw [show decR w k = err by unfold decR; rw [if_neg (by omega), if_pos (.inr ⟨c4, by omega⟩)]] at hk
     exact hk
    ·rw [decide_eq_false_iff_not] at c5
     refine needS_intro (by simp; omega) (ldIS_x (i := k.toNat + 1) (by omega) (by omega) (needS_intro (by simp; omega) (ldIS_x (i := k.toNat + 2) (by omega) (by omega) ?_)))
     rw [wide_prog hx1 hx2]
     refine ⟨(by first | rfl | trivial), (by first | rfl | trivial), (by first | rfl | trivial), (by first | rfl | trivial), (by first | rfl | trivial), ?_, (by first | rfl | trivial), ?_, (by first | rfl | trivial), ⟨⟨⟨c1, c2⟩, c3⟩, fun _ => by omega⟩, trivial⟩
     ·rw [if_pos c4]
     ·rw [if_pos c4]
   ·rw [beq_eq_false_iff_ne] at c4
    refine ⟨(by first | rfl | trivial), (by first | rfl | trivial), (by first | rfl | trivial), (by first | rfl | trivial), (by first | rfl | trivial), ?_, (by first | rfl | trivial), ?_, (by first | rfl | trivial), ⟨⟨⟨c1, c2⟩, c3⟩, fun e => absurd e c4⟩, trivial⟩
    ·rw [if_neg c4]
    ·rw [if_neg c4]
  ·intro _ _ hp
   obtain ⟨⟨⟨c1, c2⟩, c3⟩, h6⟩ := hp
   have hR : decR w k = if okIn (dI w k) = true /\ word1 (dI w k) = w.getD k.toNat 0 then (dI w k, if fmI (w.getD k.toNat 0 % 64) = 6 then 3 else 1, 0) else err := by
    unfold decR
    rw [if_neg (by omega), if_neg (by rw [c3]; simp; exact h6)]
   refine ⟨[dI w k], ⟨rfl, rfl⟩, ⟨by simp, by simp⟩, fun hv e h' => ?_, fun hv h' => ?_⟩
   ·have hv : okIn (dI w k) = true := hv _ (by simp)
    rw [show [dI w k].flatMap encW = encW (dI w k) by simp]
    have hpos := (encW_pos (dI w k)).1
    refine needS_intro (by simp; omega) (ldIS_map (i := 0) (l := encW (dI w k)) (by omega) ?_)
    have e0 : (encW (dI w k))[0]'(by omega) = word1 (dI w k) := by
     have := encW_head (dI w k)
     rw [List.getElem?_eq_getElem (by omega)] at this
     exact Option.some.inj this
    refine brS_intro (fun c5 => ?_) (fun c5 => ?_)
    ·rw [bne_iff_ne] at c5
     rw [hR, if_neg (fun q => c5 (e0.trans q.2))] at hk
     exact hk
    ·rw [bne_eq_false_iff_eq] at c5
     rw [hR, if_pos ⟨hv, e0.symm.trans c5⟩] at hk
     exact hk
   ·have : okIn (dI w k) = false := by
     cases hq : okIn (dI w k)
     ·rfl
     ·exact absurd (fun i hi => by rw [List.mem_singleton] at hi; rw [hi]; exact hq) hv
    rw [hR, if_neg (by rw [this]; simp)] at hk
    exact hk
 ·exact hk.elim
def cRDecode := addC 35 kRDecode cDecode
theorem okRDecode : Sound env cRDecode := sound_add sRDecode (okDecode)
end Go.Proofs.YtlenjfbmpekabaaDoor
end
section
set_option linter.unusedVariables false
set_option linter.unusedSimpArgs false
namespace Go.Proofs.YtlenjfbmpekabaaDoor
open Go.Pv Go.M29 Go.M30
noncomputable def cSameInts := cRDecode
theorem okSameInts : Sound env cSameInts := okRDecode
noncomputable def cSameWords := cSameInts
theorem okSameWords : Sound env cSameWords := okSameInts
noncomputable def cFlipBit := cSameWords
theorem okFlipBit : Sound env cFlipBit := okSameWords
noncomputable def cExG := cFlipBit
theorem okExG : Sound env cExG := okFlipBit
end Go.Proofs.YtlenjfbmpekabaaDoor
end
section
set_option linter.unusedVariables false
set_option linter.unusedSimpArgs false
namespace Go.Proofs.YtlenjfbmpekabaaDoor
open Go.Pv Go.M29 Go.M30
theorem flatMap_len5 : ∀ (l : List In), (l.flatMap cIns).length = l.length * 5
 | [] => rfl
 | x :: r => by rw [List.flatMap_cons, List.length_append, flatMap_len5 r, List.length_cons, Nat.succ_mul]; simp [cIns]; omega
theorem insK_end' {l : List Int} {i : Nat} {m : Int} (h2 : i <= l.length) (h3 : (i : Int) <= m) (hc : ¬ (i : Int) < l.length \/ ¬ (i : Int) < m) : insK l m = insT l i := by
 unfold insK insT
 congr 1
 rcases hc with c | c
 ·rw [List.take_of_length_le (by omega), List.take_of_length_le (by omega)]
 ·rw [show m.toNat = i by omega]
def insInv3 (l : List Int) (e1 : Nat) (m : Int) (h : Heap) : Inv' := .or
 (atX Unit (fun _ => [(5, .v .nilslice), (0, .v (.vslice none e1 (l).length 1 ((l).map (IV.int .i64)))), (1, .v (.int .i64 m)), (6, .v (.int .i64 0))]) (fun _ => []) (fun _ => h) (fun _ => True) (fun _ => l.length))
 (atX (Nat × Heap × Nat) (fun x => [(5, .v (.hslice x.2.2 0 x.1 5)), (0, .v (.vslice none e1 (l).length 1 ((l).map (IV.int .i64)))), (1, .v (.int .i64 m)), (6, .v (.int .i64 x.1))]) (fun _ => []) (fun x => x.2.1) (fun x => ((1 <= x.1 /\ x.1 <= l.length) /\ (x.1 : Int) <= m) /\ x.2.1.get x.2.2 = .cells ((insT l x.1).flatMap cIns) /\ x.2.2 < x.2.1.next) (fun x => l.length - x.1))
def kInstrs (xs : List IV) (h : Heap) (K : IV -> Heap -> Prop) : Prop := match xs with
 | [.vslice none e1 n1 1 c1, .int .i64 m] => ∃ l : List Int, (n1 = l.length /\ c1 = l.map (IV.int .i64)) /\ (l.length < 4611686018427387904 /\ m <= 1000000) /\ (insK l m = [] -> K .nilslice h) /\ (insK l m ≠ [] -> ∀ g h', h'.get g = .cells ((insK l m).flatMap cIns) -> g < h'.next -> K (.hslice g 0 (insK l m).length 5) h')
 | _ => False
noncomputable def z39a (l : List Int) (e1 : Nat) := TV.v (.vslice none e1 l.length 1 (List.map (IV.int .i64) l))
noncomputable def z39b (m : Int) := TV.v (.int .i64 m)
noncomputable def z39c (n0 : Int) := IObj.cells [IV.int .i64 (In.op (kin n0)), IV.int .i64 (In.a (kin n0)), IV.int .i64 (In.b (kin n0)), IV.int .i64 (In.c (kin n0)), IV.int .i64 (In.n (kin n0))]
noncomputable def z39d (n1 : Int) := [IV.int .i64 (In.op (kin n1)), IV.int .i64 (In.a (kin n1)), IV.int .i64 (In.b (kin n1)), IV.int .i64 (In.c (kin n1)), IV.int .i64 (In.n (kin n1))]
noncomputable def z39e  := TV.v (.int .i64 0)
noncomputable def z39f  := TV.v IV.nilslice
set_option maxRecDepth 100000 in
theorem vInstrs (l : List Int) (e1 : Nat) (m : Int) (h : Heap) (Q : IV -> Heap -> Prop) : dF (stdS cExG) env 39 noU (ic1 4 (insInv3 l e1 m h)) noI [.vslice none e1 (l).length 1 ((l).map (IV.int .i64)), .int .i64 m] h Q = (
 ((∃ (x : Unit), some z39f = some z39f /\ some (z39a l e1) = some (z39a l e1) /\ some (z39b m) = some (z39b m) /\ some z39e = some z39e /\ h = h /\ True /\ True) \/ ∃ (x : Nat × Heap × Nat), some z39f = some (TV.v (.hslice x.2.2 0 x.1 5)) /\ some (z39a l e1) = some
 (z39a l e1) /\ some (z39b m) = some (z39b m) /\ some z39e = some (TV.v (.int .i64 (↑x.1 : Int))) /\ h = x.2.1 /\ (((1 <= x.1 /\ x.1 <= l.length) /\ (↑x.1 : Int) <= m) /\ Heap.get x.2.1 x.2.2 = IObj.cells (List.flatMap
 cIns (insT l x.1)) /\ x.2.2 < Heap.next x.2.1) /\ True) /\ (∀ (x : Unit) (b : FF), True -> brS (decide (0 < (↑l.length : Int))) (brS (decide (0 < m)) (needS (true && decide (0 < (↑l.length : Int))) (ldIS .i64 (List.map
 (IV.int .i64) l) 0 fun n0 => (∃ (x : Unit), some (TV.v (.hslice (Heap.next h) 0 1 5)) = some z39f /\ some (z39a l e1) = some (z39a l e1) /\ some (z39b m) = some (z39b m) /\ some (TV.v (.int .i64 1)) = some z39e /\ Heap.push h (z39c n0) = h
 /\ True /\ l.length < l.length) \/ ∃ (x : Nat × Heap × Nat), some (TV.v (.hslice (Heap.next h) 0 1 5)) = some (TV.v (.hslice x.2.2 0 x.1 5)) /\ some (z39a l e1) = some (z39a l e1) /\ some (z39b m) = some (z39b m) /\ some (TV.v
 (IV.int .i64 1)) = some (TV.v (.int .i64 (↑x.1 : Int))) /\ Heap.push h (z39c n0) = x.2.1 /\ (((1 <= x.1 /\ x.1 <= l.length) /\ (↑x.1 : Int) <= m) /\ Heap.get x.2.1 x.2.2 = IObj.cells (List.flatMap
 cIns (insT l x.1)) /\ x.2.2 < Heap.next x.2.1) /\ l.length - x.1 < l.length)) (Q IV.nilslice h)) (Q IV.nilslice h)) /\ ∀ (x : Nat × Heap × Nat) (b : FF), ((1 <= x.1 /\ x.1 <= l.length) /\ (↑x.1 : Int) <= m) /\ Heap.get
 x.2.1 x.2.2 = IObj.cells (List.flatMap cIns (insT l x.1)) /\ x.2.2 < Heap.next x.2.1 -> brS (decide ((↑x.1 : Int) < (↑l.length : Int))) (brS (decide ((↑x.1 : Int) < m)) (needS (decide (0 <= (↑(Prod.fst
 x) : Int)) && decide ((↑x.1 : Int) < (↑l.length : Int))) (ldIS .i64 (List.map (IV.int .i64) l) (Int.toNat (↑x.1 : Int) * 1) fun n1 => hgetS x.2.1 x.2.2 fun r2 => needS (true && (Nat.ble (x.1
 * (5 : Nat)) r2.length && Nat.ble ((x.1 + 1) * 40) (140737488355328 : Nat))) ((∃ (x_1 : Unit), some (TV.v (.hslice (Heap.next x.2.1) 0 (x.1 + 1) 5)) = some z39f /\ some (z39a l e1) = some (z39a l e1) /\ some (z39b m) = some
 (z39b m) /\ some (TV.v (.int .i64 (IntKind.wrap .i64 ((↑x.1 : Int) + 1)))) = some z39e /\ Heap.push (Heap.set x.2.1 x.2.2 IObj.dead) (IObj.cells (List.take (x.1 * 5) r2 ++ (z39d n1))) = h /\ True /\ l.length < List.length
 l - x.1) \/ ∃ (x_1 : Nat × Heap × Nat), some (TV.v (.hslice (Heap.next x.2.1) 0 (x.1 + 1) 5)) = some (TV.v (.hslice x_1.2.2 0 x_1.1 5)) /\ some (z39a l e1) = some (z39a l e1) /\ some (z39b m) = some (z39b
 m) /\ some (TV.v (.int .i64 (IntKind.wrap .i64 ((↑x.1 : Int) + 1)))) = some (TV.v (.int .i64 (↑x_1.1 : Int))) /\ Heap.push (Heap.set x.2.1 x.2.2 IObj.dead) (IObj.cells (List.take (x.1 * 5) r2 ++ (z39d
 n1))) = x_1.2.1 /\ (((1 <= x_1.1 /\ x_1.1 <= l.length) /\ (↑x_1.1 : Int) <= m) /\ Heap.get x_1.2.1 x_1.2.2 = IObj.cells (List.flatMap cIns (insT l x_1.1)) /\ x_1.2.2 < Heap.next (Prod.fst (Prod.snd
 x_1))) /\ l.length - x_1.1 < l.length - x.1))) (Q (.hslice x.2.2 0 x.1 5) x.2.1)) (Q (.hslice x.2.2 0 x.1 5) x.2.1)) := by kernel_rfl
set_option maxHeartbeats 2000000 in
theorem sInstrs : ∀ xs h Q, kInstrs xs h Q -> CallW env 39 xs h Q := by
 intro xs h Q hk
 unfold kInstrs at hk
 split at hk
 ·rename_i e1 n1 c1 m
  obtain ⟨l, ⟨rfl, rfl⟩, hb, hk⟩ := hk
  refine dF_run (okExG) (vInstrs l e1 m h Q) ?_
  delta z39a z39b z39c z39d z39e z39f
  obtain ⟨hl, hm⟩ := hb
  have tn : ∀ x : Nat, (x : Int).toNat = x := Int.toNat_natCast
  refine ⟨.inl ⟨(), rfl, rfl, rfl, rfl, rfl, trivial, trivial⟩, fun _ _ _ => ?_, fun x _ hx => ?_⟩
  ·refine brS_intro (fun c1 => brS_intro (fun c2 => needS_intro (by simpa using c1) ?_) (fun c2 => ?_)) (fun c1 => ?_)
   ·rw [decide_eq_true_eq] at c1 c2
    have h0 : 0 < l.length := by omega
    have e1 : insT l 1 = [kin l[0]] := by rw [insT_succ h0]; rfl
    refine ldIS_map (i := 0) h0 (.inr ⟨(1, h.push (.cells (cIns (kin l[0]))), h.next), rfl, rfl, rfl, rfl, rfl, ⟨⟨⟨by omega, by omega⟩, by simp only; omega⟩, ?_, ?_⟩, by simp only; omega⟩)
    ·simp only [get_push, if_pos trivial]; rw [e1]; rfl
    ·simp only [next_push]; omega
   ·rw [decide_eq_false_iff_not] at c2
    rw [insK_nil (.inr (by omega))] at hk
    exact hk.1 rfl
   ·rw [decide_eq_false_iff_not] at c1
    rw [insK_nil (.inl (by omega))] at hk
    exact hk.1 rfl
  ·obtain ⟨i, hp, g⟩ := x
   obtain ⟨⟨⟨h1, h2⟩, h3⟩, hg, hgn⟩ := hx
   simp only at h1 h2 h3 hg hgn
   have hil := insT_len h2
   refine brS_intro (fun c1 => brS_intro (fun c2 => needS_intro (by simp at c1; simp; omega) ?_) (fun c2 => ?_)) (fun c1 => ?_)
   ·rw [decide_eq_true_eq] at c1 c2
    have h0 : i < l.length := by simp only at c1; omega
    have hlen : ((insT l i).flatMap cIns).length = i * 5 := by
     rw [flatMap_len5, hil]
    rw [tn, Nat.mul_one]
    refine ldIS_map (i := i) h0 (hget_i hg (needS_intro (by simp [nbeq_t, hlen]; omega) (.inr ⟨(i + 1, (hp.set g .dead).push (.cells ((insT l i).flatMap cIns ++ cIns (kin l[i]))), hp.next), rfl, rfl, rfl, ?_, ?_, ⟨⟨⟨by simp only; omega, by simp only; omega⟩, by simp only at c2 ⊢; omega⟩, ?_, ?_⟩, by simp only; omega⟩)))
    ·simp only; rw [IntWalk.i64_in _ (by omega)]; rfl
    ·simp only; rw [List.take_of_length_le (by rw [hlen]; exact Nat.le_refl _)]; rfl
    ·simp only [get_push, next_set, if_pos trivial]; rw [insT_succ h0]; simp
    ·simp only [next_push, next_set]; omega
   ·rw [decide_eq_false_iff_not] at c2
    have e := insK_end' h2 h3 (.inr c2)
    rw [e] at hk
    have hk2 := hk.2 (fun z => by rw [z] at hil; simp at hil; omega) g hp hg hgn
    rw [hil] at hk2
    exact hk2
   ·rw [decide_eq_false_iff_not] at c1
    have e := insK_end' h2 h3 (.inl (by simp only at c1; omega))
    rw [e] at hk
    have hk2 := hk.2 (fun z => by rw [z] at hil; simp at hil; omega) g hp hg hgn
    rw [hil] at hk2
    exact hk2
 ·exact hk.elim
def cInstrs := addC 39 kInstrs cExG
theorem okInstrs : Sound env cInstrs := sound_add sInstrs (okExG)
end Go.Proofs.YtlenjfbmpekabaaDoor
end
section
set_option linter.unusedVariables false
set_option linter.unusedSimpArgs false
namespace Go.Proofs.YtlenjfbmpekabaaDoor
open Go.Pv Go.M29 Go.M30
def daDecAll (w : List Int) : Inv' := .or
 (atX Unit (fun _ => [(5, .v .nilslice), (6, .v .nilslice), (0, .v (.vslice none 0 (w).length 1 ((w).map (IV.int .u32)))), (7, .v (.int .i64 0))]) (fun _ => []) (fun _ => Heap.empty) (fun _ => True) (fun _ => w.length + 1))
 (atX (Nat × Int × List In × List Int) (fun x => [(5, .v (.vslice (some 0) ((x.2.2.1).length * 5) (x.2.2.1).length 5 ((x.2.2.1).flatMap cIns))), (6, .v (.vslice (some 1) (x.2.2.2).length (x.2.2.2).length 1 ((x.2.2.2).map (IV.int .i64)))), (0, .v (.vslice none 0 (w).length 1 ((w).map (IV.int .u32)))), (7, .v (.int .i64 x.2.1))]) (fun _ => []) (fun x => ⟨.node (.node .nil (some (.tip x.2.2.2.length)) .nil) (some (.tip (x.2.2.1.length * 5))) .nil, 2⟩)
  (fun x => (decAcc w x.1 x.2.1 x.2.2.1 x.2.2.2 = decA w /\ (w.length : Int) - x.2.1 < x.1) /\ (0 <= x.2.1 /\ x.2.1 <= w.length) /\ x.2.2.2.length = x.2.2.1.length /\ (x.2.2.1.length : Int) <= x.2.1) (fun x => ((w.length : Int) - x.2.1).toNat))
def kDecAll (xs : List IV) (h : Heap) (K : IV -> Heap -> Prop) : Prop := match xs with
 | [.vslice none e1 n1 1 c1] => ∃ w : List Int, (n1 = w.length /\ c1 = w.map (IV.int .u32)) /\ ((∀ x ∈ w, u32b x) /\ w.length <= 1000000) /\ K (.tuple [.vslice none 0 ((decA w).1).length 5 (((decA w).1).flatMap cIns), .vslice none 0 ((decA w).2.1).length 1 (((decA w).2.1).map (IV.int .i64)), .int .i64 (decA w).2.2]) h
 | _ => False
noncomputable def z48a (w_1 : List Int) := TV.v (.vslice (some (0 : Nat)) 5 1 5 [IV.int .i64 (In.op (Prod.fst (decR w_1 (0 : Int)))), IV.int .i64 (In.a (Prod.fst (decR w_1 (0 : Int)))), IV.int .i64 (In.b (Prod.fst (decR w_1 (0 : Int)))), IV.int .i64 (In.c (Prod.fst (decR w_1 (0 : Int)))), IV.int .i64 (In.n (Prod.fst (decR w_1 (0 : Int))))])
noncomputable def z48b  := TV.v (.int .i64 0)
noncomputable def z48c  := TV.v IV.nilslice
noncomputable def z48d  := TV.v (.vslice (some ((0 : Nat) + 1)) 1 1 1 [IV.int .i64 0])
noncomputable def z48e  := PT.node (PT.node PT.nil (some (IObj.tip (1 : Nat))) PT.nil) (some (IObj.tip (5 : Nat))) PT.nil
noncomputable def z48f (w_1 : List Int) := TV.v (.int .i64 (IntKind.wrap .i64 ((0 : Int) + Prod.fst (Prod.snd (decR w_1 (0 : Int))))))
noncomputable def z48g  := IV.int .i64
noncomputable def z48h (w : List Int) := w.length
noncomputable abbrev z48i (w w_1 : List Int) := w.length = w_1.length /\ List.map (IV.int .u32) w = List.map (IV.int .u32) w_1
set_option maxRecDepth 100000 in
theorem vDecAll (w : List Int) (e1 : Nat) (h : Heap) (Q : IV -> Heap -> Prop) : dF (stdS cInstrs) env 48 noU (ic1 5 (daDecAll w)) noI [.vslice none e1 (w).length 1 ((w).map (IV.int .u32))] h Q = (
 needS (pureL [vW w]) (((∃ (x : Unit), some z48c = some z48c /\ some z48c = some z48c /\ some (TV.v (vW w)) = some (TV.v (vW w)) /\ some z48b = some z48b /\ Heap.mk PT.nil 0 = Heap.mk PT.nil 0 /\ True /\ True) \/ ∃ (x : Nat × Int × List In × List Int), some z48c = some (TV.v (.vslice (some
 (0 : Nat)) (x.2.2.1.length * 5) x.2.2.1.length 5 (List.flatMap cIns x.2.2.1))) /\ some z48c = some (TV.v (.vslice (some (1 : Nat)) x.2.2.2.length (List.length
 x.2.2.2) 1 (List.map z48g x.2.2.2))) /\ some (TV.v (vW w)) = some (TV.v (vW w)) /\ some z48b = some (TV.v (.int .i64 x.2.1)) /\ Heap.mk PT.nil 0 = Heap.mk (PT.node (PT.node PT.nil (some (IObj.tip (List.length
 x.2.2.2))) PT.nil) (some (IObj.tip (x.2.2.1.length * 5))) PT.nil) (2 : Nat) /\ ((decAcc w x.1 x.2.1 x.2.2.1 x.2.2.2 = decA w /\ (↑(z48h w) : Int) - Prod.fst
 x.2 < (↑x.1 : Int)) /\ (0 <= x.2.1 /\ x.2.1 <= (↑(z48h w) : Int)) /\ x.2.2.2.length = x.2.2.1.length /\ (↑x.2.2.1.length : Int) <= x.2.1)
 /\ True) /\ (∀ (x : Unit) (b : FF), True -> brS (decide (0 < (↑(z48h w) : Int))) (∃ (w_1 : List Int), (z48i w w_1) /\ ((∀ (x : Int), x ∈ w_1 -> u32b x) /\ (↑w_1.length : Int) <= 9223372036854775807 /\ (-9223372036854775808 : Int) <= 0) /\ brS (Prod.snd (Prod.snd (decR w_1 (0 : Int)))
 != (0 : Int)) (Q (.tuple [.vslice none 0 0 5 [], IV.vslice none 0 0 1 [], IV.int .i64 (Prod.snd (Prod.snd (decR w_1 (0 : Int))))]) h) ((∃ (x : Unit), some (z48a w_1) = some z48c /\ some z48d = some z48c /\ some (TV.v (vW w)) = some (TV.v (vW w))
 /\ some (z48f w_1) = some z48b /\ Heap.mk z48e ((0 : Nat) + 1 + (1 : Nat)) = Heap.mk PT.nil 0 /\ True /\ w.length + 1 < w.length + 1) \/ ∃ (x : Nat × Int × List In × List Int), some (z48a w_1) = some (TV.v (.vslice (some (0 : Nat)) (List.length (Prod.fst (Prod.snd
 x.2)) * 5) x.2.2.1.length 5 (List.flatMap cIns x.2.2.1))) /\ some z48d = some (TV.v (.vslice (some (1 : Nat)) x.2.2.2.length x.2.2.2.length 1
 (List.map z48g x.2.2.2))) /\ some (TV.v (vW w)) = some (TV.v (vW w)) /\ some (z48f w_1) = some (TV.v (.int .i64 x.2.1)) /\ Heap.mk z48e ((0 : Nat) + 1 + (1 : Nat)) = Heap.mk (PT.node (PT.node PT.nil (some (IObj.tip (List.length (Prod.snd (Prod.snd
 x.2))))) PT.nil) (some (IObj.tip (x.2.2.1.length * 5))) PT.nil) (2 : Nat) /\ ((decAcc w x.1 x.2.1 x.2.2.1 x.2.2.2 = decA w /\ (↑(z48h w) : Int) - x.2.1 < (↑(Prod.fst
 x) : Int)) /\ (0 <= x.2.1 /\ x.2.1 <= (↑(z48h w) : Int)) /\ x.2.2.2.length = x.2.2.1.length /\ (↑x.2.2.1.length : Int) <= x.2.1) /\ Int.toNat ((↑(z48h w) :
 Int) - x.2.1) < w.length + 1)) (Q (.tuple [.vslice none 0 0 5 [], IV.vslice none 0 0 1 [], IV.int .i64 0]) h)) /\ ∀ (x : Nat × Int × List In × List Int) (b : FF), (decAcc w x.1 (Prod.fst (Prod.snd
 x)) x.2.2.1 x.2.2.2 = decA w /\ (↑(z48h w) : Int) - x.2.1 < (↑x.1 : Int)) /\ (0 <= x.2.1 /\ x.2.1 <= (↑(z48h w) : Int)) /\ x.2.2.2.length = List.length (Prod.fst
 x.2.2) /\ (↑x.2.2.1.length : Int) <= x.2.1 -> brS (decide (x.2.1 < (↑(z48h w) : Int))) (∃ (w_1 : List Int), (z48i w w_1) /\ ((∀ (x : Int), x ∈ w_1 -> u32b x) /\ (↑w_1.length : Int) <= 9223372036854775807 /\ (-9223372036854775808
 : Int) <= x.2.1) /\ brS (Prod.snd (Prod.snd (decR w_1 x.2.1)) != 0) (Q (.tuple [.vslice none 0 0 5 [], IV.vslice none 0 0 1 [], IV.int .i64 (Prod.snd (Prod.snd (decR w_1 x.2.1)))]) h)
 (needS (Nat.beq (x.2.2.1.length * 5) (x.2.2.1.length * 5) && Nat.ble ((x.2.2.1.length + 1) * 40) (140737488355328 : Nat)) (needS (Nat.beq (List.length (Prod.snd (Prod.snd (Prod.snd
 x)))) x.2.2.2.length && Nat.ble ((x.2.2.2.length + 1) * 8) (140737488355328 : Nat)) ((∃ (x_1 : Unit), some (TV.v (.vslice (some (0 : Nat)) (x.2.2.1.length * 5 + (5 : Nat)) (List.length
 x.2.2.1 + 1) 5 (List.flatMap cIns x.2.2.1 ++ [IV.int .i64 (In.op (Prod.fst (decR w_1 x.2.1))), IV.int .i64 (In.a (Prod.fst (decR w_1 x.2.1))), IV.int .i64 (In.b (Prod.fst (decR
 w_1 x.2.1))), IV.int .i64 (In.c (Prod.fst (decR w_1 x.2.1))), IV.int .i64 (In.n (Prod.fst (decR w_1 x.2.1)))]))) = some z48c /\ some (TV.v (.vslice (some (1 : Nat)) (x.2.2.2.length + 1) (List.length
 x.2.2.2 + 1) 1 (List.map z48g x.2.2.2 ++ [IV.int .i64 x.2.1]))) = some z48c /\ some (TV.v (vW w)) = some (TV.v (vW w)) /\ some (TV.v (.int .i64 (IntKind.wrap .i64 (x.2.1 + Prod.fst
 (Prod.snd (decR w_1 x.2.1)))))) = some z48b /\ Heap.mk (PT.node (PT.node PT.nil (some (IObj.tip (x.2.2.2.length + 1))) PT.nil) (some (IObj.tip (x.2.2.1.length * 5 + (5 : Nat)))) PT.nil) (2 : Nat) = Heap.mk
 PT.nil (0 : Nat) /\ True /\ w.length + 1 < Int.toNat ((↑(z48h w) : Int) - x.2.1)) \/ ∃ (x_1 : Nat × Int × List In × List Int), some (TV.v (.vslice (some (0 : Nat)) (x.2.2.1.length * 5 + (5 : Nat)) (List.length (Prod.fst (Prod.snd (Prod.snd
 x))) + 1) 5 (List.flatMap cIns x.2.2.1 ++ [IV.int .i64 (In.op (Prod.fst (decR w_1 x.2.1))), IV.int .i64 (In.a (Prod.fst (decR w_1 x.2.1))), IV.int .i64 (In.b (Prod.fst (decR w_1 x.2.1))),
 IV.int .i64 (In.c (Prod.fst (decR w_1 x.2.1))), IV.int .i64 (In.n (Prod.fst (decR w_1 x.2.1)))]))) = some (TV.v (.vslice (some (0 : Nat)) (x_1.2.2.1.length * 5) x_1.2.2.1.length
 5 (List.flatMap cIns x_1.2.2.1))) /\ some (TV.v (.vslice (some (1 : Nat)) (x.2.2.2.length + 1) (x.2.2.2.length + 1) 1 (List.map z48g x.2.2.2 ++ [IV.int
 .i64 x.2.1]))) = some (TV.v (.vslice (some (1 : Nat)) x_1.2.2.2.length x_1.2.2.2.length 1 (List.map z48g x_1.2.2.2))) /\ some (TV.v (vW w)) = some (TV.v (vW w)) /\ some (TV.v
 (IV.int .i64 (IntKind.wrap .i64 (x.2.1 + Prod.fst (Prod.snd (decR w_1 x.2.1)))))) = some (TV.v (.int .i64 x_1.2.1)) /\ Heap.mk (PT.node (PT.node PT.nil (some (IObj.tip (x.2.2.2.length + 1)))
 PT.nil) (some (IObj.tip (x.2.2.1.length * 5 + (5 : Nat)))) PT.nil) (2 : Nat) = Heap.mk (PT.node (PT.node PT.nil (some (IObj.tip x_1.2.2.2.length)) PT.nil) (some (IObj.tip (x_1.2.2.1.length * (5 :
 Nat)))) PT.nil) (2 : Nat) /\ ((decAcc w x_1.1 x_1.2.1 x_1.2.2.1 x_1.2.2.2 = decA w /\ (↑(z48h w) : Int) - x_1.2.1 < (↑x_1.1 : Int)) /\ (0 <= x_1.2.1 /\ x_1.2.1
 <= (↑(z48h w) : Int)) /\ x_1.2.2.2.length = x_1.2.2.1.length /\ (↑x_1.2.2.1.length : Int) <= x_1.2.1) /\ Int.toNat ((↑(z48h w) : Int) - x_1.2.1) < Int.toNat ((↑(z48h w) : Int)
 - x.2.1))))) (needS (pureL [IV.vslice none 0 x.2.2.1.length 5 (List.flatMap cIns x.2.2.1), vI x.2.2.2, IV.int .i64 0]) (Q (.tuple [.vslice none 0 (List.length
 x.2.2.1) 5 (List.flatMap cIns x.2.2.1), vI x.2.2.2, IV.int .i64 0]) h)))) := by kernel_rfl
set_option maxHeartbeats 4000000 in
theorem sDecAll : ∀ xs h Q, kDecAll xs h Q -> CallW env 48 xs h Q := by
 intro xs h Q hk
 unfold kDecAll at hk
 split at hk
 ·rename_i e1 n1 c1
  obtain ⟨w, ⟨rfl, rfl⟩, hb, hk⟩ := hk
  refine dF_run (okInstrs) (vDecAll w e1 h Q) ?_
  delta vI vW z48a z48b z48c z48d z48e z48f z48g z48h z48i
  obtain ⟨hw, hl⟩ := hb
  refine needS_intro (by simp only [pureL, pureB, pureL_ints, Bool.and_true]) ⟨.inl ⟨(), rfl, rfl, rfl, rfl, rfl, trivial, trivial⟩, fun _ _ _ => ?_, fun x _ hx => ?_⟩
  ·refine brS_intro (fun c1 => ?_) (fun c1 => ?_)
   ·rw [decide_eq_true_eq] at c1
    have hA : decA w = if (decR w 0).2.2 = 0 then decAcc w w.length (0 + (decR w 0).2.1) ([] ++ [(decR w 0).1]) ([] ++ [0]) else ([], [], (decR w 0).2.2) := by
     show decAcc w (w.length + 1) 0 [] [] = _
     rw [decAcc_succ, if_pos c1]
    refine ⟨w, ⟨rfl, rfl⟩, ⟨hw, by omega, by omega⟩, brS_intro (fun c2 => ?_) (fun c2 => ?_)⟩
    ·rw [bne_iff_ne] at c2
     rw [hA, if_neg c2] at hk
     exact hk
    ·rw [bne_eq_false_iff_eq] at c2
     obtain ⟨p1, p2, p3⟩ := dec_pos hw c2
     rw [hA, if_pos c2] at hk
     refine .inr ⟨(w.length, 0 + (decR w 0).2.1, [(decR w 0).1], [0]), rfl, rfl, rfl, ?_, rfl, ⟨⟨?_, by simp only; omega⟩, ⟨by simp only; omega, by simp only; omega⟩, rfl, by simp only [List.length_cons, List.length_nil]; omega⟩, by simp only; omega⟩
     ·simp only
      rw [IntWalk.i64_in _ (by omega)]
     ·simp only
      rw [hA, if_pos c2]
      rfl
   ·rw [decide_eq_false_iff_not] at c1
    have hA : decA w = ([], [], 0) := by
     unfold decA decAcc
     rw [if_neg c1]
    rw [hA] at hk
    exact hk
  ·obtain ⟨n, k, acc, pl⟩ := x
   obtain ⟨⟨hA, hn⟩, ⟨h0, h1⟩, hlen, hak⟩ := hx
   simp only at hA hn h0 h1 hlen hak ⊢
   refine brS_intro (fun c1 => ?_) (fun c1 => ?_)
   ·rw [decide_eq_true_eq] at c1
    obtain ⟨m, rfl⟩ : ∃ m, n = m + 1 := ⟨n - 1, by omega⟩
    have hA2 : decA w = if (decR w k).2.2 = 0 then decAcc w m (k + (decR w k).2.1) (acc ++ [(decR w k).1]) (pl ++ [k]) else ([], [], (decR w k).2.2) := by
     rw [<- hA, decAcc_succ, if_pos c1]
    refine ⟨w, ⟨rfl, rfl⟩, ⟨hw, by omega, by omega⟩, brS_intro (fun c2 => ?_) (fun c2 => ?_)⟩
    ·rw [bne_iff_ne] at c2
     rw [hA2, if_neg c2] at hk
     exact hk
    ·rw [bne_eq_false_iff_eq] at c2
     obtain ⟨p1, p2, p3⟩ := dec_pos hw c2
     refine needS_intro (by simp [nbeq_t]; omega) (needS_intro (by simp [nbeq_t]; omega) (.inr ⟨(m, k + (decR w k).2.1, acc ++ [(decR w k).1], pl ++ [k]), ?_, ?_, (by first | rfl | trivial), ?_, ?_, ⟨⟨?_, by simp only; omega⟩, ⟨by simp only; omega, by simp only; omega⟩, ?_, ?_⟩, by simp only; omega⟩))
     ·simp [Nat.add_mul, cIns]
     ·simp
     ·simp only
      rw [IntWalk.i64_in _ (by omega)]
     ·simp [Nat.add_mul]
     ·simp only
      rw [hA2, if_pos c2]
     ·simp [hlen]
     ·simp only [List.length_append, List.length_cons, List.length_nil]; omega
   ·rw [decide_eq_false_iff_not] at c1
    have hA2 : decA w = (acc, pl, 0) := by
     rw [<- hA]
     cases n with
     | zero => omega
     | succ n => unfold decAcc; rw [if_neg c1]
    rw [hA2] at hk
    exact needS_intro (by simp only [pureL, pureB, pureL_in, pureL_ints, Bool.and_true]) hk
 ·exact hk.elim
def cDecAll := addC 48 kDecAll cInstrs
theorem okDecAll : Sound env cDecAll := sound_add sDecAll (okInstrs)
def daRDecAll (w : List Int) : Inv' := .or
 (atX Unit (fun _ => [(5, .v .nilslice), (6, .v .nilslice), (0, .v (.vslice none 0 (w).length 1 ((w).map (IV.int .u32)))), (7, .v (.int .i64 0))]) (fun _ => []) (fun _ => Heap.empty) (fun _ => True) (fun _ => w.length + 1))
 (atX (Nat × Int × List In × List Int) (fun x => [(5, .v (.vslice (some 0) ((x.2.2.1).length * 5) (x.2.2.1).length 5 ((x.2.2.1).flatMap cIns))), (6, .v (.vslice (some 1) (x.2.2.2).length (x.2.2.2).length 1 ((x.2.2.2).map (IV.int .i64)))), (0, .v (.vslice none 0 (w).length 1 ((w).map (IV.int .u32)))), (7, .v (.int .i64 x.2.1))]) (fun _ => []) (fun x => ⟨.node (.node .nil (some (.tip x.2.2.2.length)) .nil) (some (.tip (x.2.2.1.length * 5))) .nil, 2⟩)
  (fun x => (decAcc w x.1 x.2.1 x.2.2.1 x.2.2.2 = decA w /\ (w.length : Int) - x.2.1 < x.1) /\ (0 <= x.2.1 /\ x.2.1 <= w.length) /\ x.2.2.2.length = x.2.2.1.length /\ (x.2.2.1.length : Int) <= x.2.1) (fun x => ((w.length : Int) - x.2.1).toNat))
def kRDecAll (xs : List IV) (h : Heap) (K : IV -> Heap -> Prop) : Prop := match xs with
 | [.vslice none e1 n1 1 c1] => ∃ w : List Int, (n1 = w.length /\ c1 = w.map (IV.int .u32)) /\ ((∀ x ∈ w, u32b x) /\ w.length <= 1000000) /\ K (.tuple [.vslice none 0 ((decA w).1).length 5 (((decA w).1).flatMap cIns), .vslice none 0 ((decA w).2.1).length 1 (((decA w).2.1).map (IV.int .i64)), .int .i64 (decA w).2.2]) h
 | _ => False
noncomputable def z51a (w_1 : List Int) := TV.v (.vslice (some (0 : Nat)) 5 1 5 [IV.int .i64 (In.op (Prod.fst (decR w_1 (0 : Int)))), IV.int .i64 (In.a (Prod.fst (decR w_1 (0 : Int)))), IV.int .i64 (In.b (Prod.fst (decR w_1 (0 : Int)))), IV.int .i64 (In.c (Prod.fst (decR w_1 (0 : Int)))), IV.int .i64 (In.n (Prod.fst (decR w_1 (0 : Int))))])
noncomputable def z51b  := TV.v (.int .i64 0)
noncomputable def z51c  := TV.v IV.nilslice
noncomputable def z51d  := TV.v (.vslice (some ((0 : Nat) + 1)) 1 1 1 [IV.int .i64 0])
noncomputable def z51e  := PT.node (PT.node PT.nil (some (IObj.tip (1 : Nat))) PT.nil) (some (IObj.tip (5 : Nat))) PT.nil
noncomputable def z51f (w_1 : List Int) := TV.v (.int .i64 (IntKind.wrap .i64 ((0 : Int) + Prod.fst (Prod.snd (decR w_1 (0 : Int))))))
noncomputable def z51g  := IV.int .i64
noncomputable def z51h (w : List Int) := w.length
noncomputable abbrev z51i (w w_1 : List Int) := w.length = w_1.length /\ List.map (IV.int .u32) w = List.map (IV.int .u32) w_1
set_option maxRecDepth 100000 in
theorem vRDecAll (w : List Int) (e1 : Nat) (h : Heap) (Q : IV -> Heap -> Prop) : dF (stdS cDecAll) env 51 noU (ic1 5 (daRDecAll w)) noI [.vslice none e1 (w).length 1 ((w).map (IV.int .u32))] h Q = (
 needS (pureL [vW w]) (((∃ (x : Unit), some z51c = some z51c /\ some z51c = some z51c /\ some (TV.v (vW w)) = some (TV.v (vW w)) /\ some z51b = some z51b /\ Heap.mk PT.nil 0 = Heap.mk PT.nil 0 /\ True /\ True) \/ ∃ (x : Nat × Int × List In × List Int), some z51c = some (TV.v (.vslice (some
 (0 : Nat)) (x.2.2.1.length * 5) x.2.2.1.length 5 (List.flatMap cIns x.2.2.1))) /\ some z51c = some (TV.v (.vslice (some (1 : Nat)) x.2.2.2.length (List.length
 x.2.2.2) 1 (List.map z51g x.2.2.2))) /\ some (TV.v (vW w)) = some (TV.v (vW w)) /\ some z51b = some (TV.v (.int .i64 x.2.1)) /\ Heap.mk PT.nil 0 = Heap.mk (PT.node (PT.node PT.nil (some (IObj.tip (List.length
 x.2.2.2))) PT.nil) (some (IObj.tip (x.2.2.1.length * 5))) PT.nil) (2 : Nat) /\ ((decAcc w x.1 x.2.1 x.2.2.1 x.2.2.2 = decA w /\ (↑(z51h w) : Int) - Prod.fst
 x.2 < (↑x.1 : Int)) /\ (0 <= x.2.1 /\ x.2.1 <= (↑(z51h w) : Int)) /\ x.2.2.2.length = x.2.2.1.length /\ (↑x.2.2.1.length : Int) <= x.2.1)
 /\ True) /\ (∀ (x : Unit) (b : FF), True -> brS (decide (0 < (↑(z51h w) : Int))) (∃ (w_1 : List Int), (z51i w w_1) /\ ((∀ (x : Int), x ∈ w_1 -> u32b x) /\ (↑w_1.length : Int) <= 4611686018427387904 /\ (-9223372036854775808 : Int) <= 0) /\ brS (Prod.snd (Prod.snd (decR w_1 (0 : Int)))
 != (0 : Int)) (Q (.tuple [.vslice none 0 0 5 [], IV.vslice none 0 0 1 [], IV.int .i64 (Prod.snd (Prod.snd (decR w_1 (0 : Int))))]) h) ((∃ (x : Unit), some (z51a w_1) = some z51c /\ some z51d = some z51c /\ some (TV.v (vW w)) = some (TV.v (vW w))
 /\ some (z51f w_1) = some z51b /\ Heap.mk z51e ((0 : Nat) + 1 + (1 : Nat)) = Heap.mk PT.nil 0 /\ True /\ w.length + 1 < w.length + 1) \/ ∃ (x : Nat × Int × List In × List Int), some (z51a w_1) = some (TV.v (.vslice (some (0 : Nat)) (List.length (Prod.fst (Prod.snd
 x.2)) * 5) x.2.2.1.length 5 (List.flatMap cIns x.2.2.1))) /\ some z51d = some (TV.v (.vslice (some (1 : Nat)) x.2.2.2.length x.2.2.2.length 1
 (List.map z51g x.2.2.2))) /\ some (TV.v (vW w)) = some (TV.v (vW w)) /\ some (z51f w_1) = some (TV.v (.int .i64 x.2.1)) /\ Heap.mk z51e ((0 : Nat) + 1 + (1 : Nat)) = Heap.mk (PT.node (PT.node PT.nil (some (IObj.tip (List.length (Prod.snd (Prod.snd
 x.2))))) PT.nil) (some (IObj.tip (x.2.2.1.length * 5))) PT.nil) (2 : Nat) /\ ((decAcc w x.1 x.2.1 x.2.2.1 x.2.2.2 = decA w /\ (↑(z51h w) : Int) - x.2.1 < (↑(Prod.fst
 x) : Int)) /\ (0 <= x.2.1 /\ x.2.1 <= (↑(z51h w) : Int)) /\ x.2.2.2.length = x.2.2.1.length /\ (↑x.2.2.1.length : Int) <= x.2.1) /\ Int.toNat ((↑(z51h w) :
 Int) - x.2.1) < w.length + 1)) (Q (.tuple [.vslice none 0 0 5 [], IV.vslice none 0 0 1 [], IV.int .i64 0]) h)) /\ ∀ (x : Nat × Int × List In × List Int) (b : FF), (decAcc w x.1 (Prod.fst (Prod.snd
 x)) x.2.2.1 x.2.2.2 = decA w /\ (↑(z51h w) : Int) - x.2.1 < (↑x.1 : Int)) /\ (0 <= x.2.1 /\ x.2.1 <= (↑(z51h w) : Int)) /\ x.2.2.2.length = List.length (Prod.fst
 x.2.2) /\ (↑x.2.2.1.length : Int) <= x.2.1 -> brS (decide (x.2.1 < (↑(z51h w) : Int))) (∃ (w_1 : List Int), (z51i w w_1) /\ ((∀ (x : Int), x ∈ w_1 -> u32b x) /\ (↑w_1.length : Int) <= 4611686018427387904 /\ (-9223372036854775808
 : Int) <= x.2.1) /\ brS (Prod.snd (Prod.snd (decR w_1 x.2.1)) != 0) (Q (.tuple [.vslice none 0 0 5 [], IV.vslice none 0 0 1 [], IV.int .i64 (Prod.snd (Prod.snd (decR w_1 x.2.1)))]) h)
 (needS (Nat.beq (x.2.2.1.length * 5) (x.2.2.1.length * 5) && Nat.ble ((x.2.2.1.length + 1) * 40) (140737488355328 : Nat)) (needS (Nat.beq (List.length (Prod.snd (Prod.snd (Prod.snd
 x)))) x.2.2.2.length && Nat.ble ((x.2.2.2.length + 1) * 8) (140737488355328 : Nat)) ((∃ (x_1 : Unit), some (TV.v (.vslice (some (0 : Nat)) (x.2.2.1.length * 5 + (5 : Nat)) (List.length
 x.2.2.1 + 1) 5 (List.flatMap cIns x.2.2.1 ++ [IV.int .i64 (In.op (Prod.fst (decR w_1 x.2.1))), IV.int .i64 (In.a (Prod.fst (decR w_1 x.2.1))), IV.int .i64 (In.b (Prod.fst (decR
 w_1 x.2.1))), IV.int .i64 (In.c (Prod.fst (decR w_1 x.2.1))), IV.int .i64 (In.n (Prod.fst (decR w_1 x.2.1)))]))) = some z51c /\ some (TV.v (.vslice (some (1 : Nat)) (x.2.2.2.length + 1) (List.length
 x.2.2.2 + 1) 1 (List.map z51g x.2.2.2 ++ [IV.int .i64 x.2.1]))) = some z51c /\ some (TV.v (vW w)) = some (TV.v (vW w)) /\ some (TV.v (.int .i64 (IntKind.wrap .i64 (x.2.1 + Prod.fst
 (Prod.snd (decR w_1 x.2.1)))))) = some z51b /\ Heap.mk (PT.node (PT.node PT.nil (some (IObj.tip (x.2.2.2.length + 1))) PT.nil) (some (IObj.tip (x.2.2.1.length * 5 + (5 : Nat)))) PT.nil) (2 : Nat) = Heap.mk
 PT.nil (0 : Nat) /\ True /\ w.length + 1 < Int.toNat ((↑(z51h w) : Int) - x.2.1)) \/ ∃ (x_1 : Nat × Int × List In × List Int), some (TV.v (.vslice (some (0 : Nat)) (x.2.2.1.length * 5 + (5 : Nat)) (List.length (Prod.fst (Prod.snd (Prod.snd
 x))) + 1) 5 (List.flatMap cIns x.2.2.1 ++ [IV.int .i64 (In.op (Prod.fst (decR w_1 x.2.1))), IV.int .i64 (In.a (Prod.fst (decR w_1 x.2.1))), IV.int .i64 (In.b (Prod.fst (decR w_1 x.2.1))),
 IV.int .i64 (In.c (Prod.fst (decR w_1 x.2.1))), IV.int .i64 (In.n (Prod.fst (decR w_1 x.2.1)))]))) = some (TV.v (.vslice (some (0 : Nat)) (x_1.2.2.1.length * 5) x_1.2.2.1.length
 5 (List.flatMap cIns x_1.2.2.1))) /\ some (TV.v (.vslice (some (1 : Nat)) (x.2.2.2.length + 1) (x.2.2.2.length + 1) 1 (List.map z51g x.2.2.2 ++ [IV.int
 .i64 x.2.1]))) = some (TV.v (.vslice (some (1 : Nat)) x_1.2.2.2.length x_1.2.2.2.length 1 (List.map z51g x_1.2.2.2))) /\ some (TV.v (vW w)) = some (TV.v (vW w)) /\ some (TV.v
 (IV.int .i64 (IntKind.wrap .i64 (x.2.1 + Prod.fst (Prod.snd (decR w_1 x.2.1)))))) = some (TV.v (.int .i64 x_1.2.1)) /\ Heap.mk (PT.node (PT.node PT.nil (some (IObj.tip (x.2.2.2.length + 1)))
 PT.nil) (some (IObj.tip (x.2.2.1.length * 5 + (5 : Nat)))) PT.nil) (2 : Nat) = Heap.mk (PT.node (PT.node PT.nil (some (IObj.tip x_1.2.2.2.length)) PT.nil) (some (IObj.tip (x_1.2.2.1.length * (5 :
 Nat)))) PT.nil) (2 : Nat) /\ ((decAcc w x_1.1 x_1.2.1 x_1.2.2.1 x_1.2.2.2 = decA w /\ (↑(z51h w) : Int) - x_1.2.1 < (↑x_1.1 : Int)) /\ (0 <= x_1.2.1 /\ x_1.2.1
 <= (↑(z51h w) : Int)) /\ x_1.2.2.2.length = x_1.2.2.1.length /\ (↑x_1.2.2.1.length : Int) <= x_1.2.1) /\ Int.toNat ((↑(z51h w) : Int) - x_1.2.1) < Int.toNat ((↑(z51h w) : Int)
 - x.2.1))))) (needS (pureL [IV.vslice none 0 x.2.2.1.length 5 (List.flatMap cIns x.2.2.1), vI x.2.2.2, IV.int .i64 0]) (Q (.tuple [.vslice none 0 (List.length
 x.2.2.1) 5 (List.flatMap cIns x.2.2.1), vI x.2.2.2, IV.int .i64 0]) h)))) := by kernel_rfl
set_option maxHeartbeats 4000000 in
theorem sRDecAll : ∀ xs h Q, kRDecAll xs h Q -> CallW env 51 xs h Q := by
 intro xs h Q hk
 unfold kRDecAll at hk
 split at hk
 ·rename_i e1 n1 c1
  obtain ⟨w, ⟨rfl, rfl⟩, hb, hk⟩ := hk
  refine dF_run (okDecAll) (vRDecAll w e1 h Q) ?_
  delta vI vW z51a z51b z51c z51d z51e z51f z51g z51h z51i
  obtain ⟨hw, hl⟩ := hb
  refine needS_intro (by simp only [pureL, pureB, pureL_ints, Bool.and_true]) ⟨.inl ⟨(), rfl, rfl, rfl, rfl, rfl, trivial, trivial⟩, fun _ _ _ => ?_, fun x _ hx => ?_⟩
  ·refine brS_intro (fun c1 => ?_) (fun c1 => ?_)
   ·rw [decide_eq_true_eq] at c1
    have hA : decA w = if (decR w 0).2.2 = 0 then decAcc w w.length (0 + (decR w 0).2.1) ([] ++ [(decR w 0).1]) ([] ++ [0]) else ([], [], (decR w 0).2.2) := by
     show decAcc w (w.length + 1) 0 [] [] = _
     rw [decAcc_succ, if_pos c1]
    refine ⟨w, ⟨rfl, rfl⟩, ⟨hw, by omega, by omega⟩, brS_intro (fun c2 => ?_) (fun c2 => ?_)⟩
    ·rw [bne_iff_ne] at c2
     rw [hA, if_neg c2] at hk
     exact hk
    ·rw [bne_eq_false_iff_eq] at c2
     obtain ⟨p1, p2, p3⟩ := dec_pos hw c2
     rw [hA, if_pos c2] at hk
     refine .inr ⟨(w.length, 0 + (decR w 0).2.1, [(decR w 0).1], [0]), rfl, rfl, rfl, ?_, rfl, ⟨⟨?_, by simp only; omega⟩, ⟨by simp only; omega, by simp only; omega⟩, rfl, by simp only [List.length_cons, List.length_nil]; omega⟩, by simp only; omega⟩
     ·simp only
      rw [IntWalk.i64_in _ (by omega)]
     ·simp only
      rw [hA, if_pos c2]
      rfl
   ·rw [decide_eq_false_iff_not] at c1
    have hA : decA w = ([], [], 0) := by
     unfold decA decAcc
     rw [if_neg c1]
    rw [hA] at hk
    exact hk
  ·obtain ⟨n, k, acc, pl⟩ := x
   obtain ⟨⟨hA, hn⟩, ⟨h0, h1⟩, hlen, hak⟩ := hx
   simp only at hA hn h0 h1 hlen hak ⊢
   refine brS_intro (fun c1 => ?_) (fun c1 => ?_)
   ·rw [decide_eq_true_eq] at c1
    obtain ⟨m, rfl⟩ : ∃ m, n = m + 1 := ⟨n - 1, by omega⟩
    have hA2 : decA w = if (decR w k).2.2 = 0 then decAcc w m (k + (decR w k).2.1) (acc ++ [(decR w k).1]) (pl ++ [k]) else ([], [], (decR w k).2.2) := by
     rw [<- hA, decAcc_succ, if_pos c1]
    refine ⟨w, ⟨rfl, rfl⟩, ⟨hw, by omega, by omega⟩, brS_intro (fun c2 => ?_) (fun c2 => ?_)⟩
    ·rw [bne_iff_ne] at c2
     rw [hA2, if_neg c2] at hk
     exact hk
    ·rw [bne_eq_false_iff_eq] at c2
     obtain ⟨p1, p2, p3⟩ := dec_pos hw c2
     refine needS_intro (by simp [nbeq_t]; omega) (needS_intro (by simp [nbeq_t]; omega) (.inr ⟨(m, k + (decR w k).2.1, acc ++ [(decR w k).1], pl ++ [k]), ?_, ?_, (by first | rfl | trivial), ?_, ?_, ⟨⟨?_, by simp only; omega⟩, ⟨by simp only; omega, by simp only; omega⟩, ?_, ?_⟩, by simp only; omega⟩))
     ·simp [Nat.add_mul, cIns]
     ·simp
     ·simp only
      rw [IntWalk.i64_in _ (by omega)]
     ·simp [Nat.add_mul]
     ·simp only
      rw [hA2, if_pos c2]
     ·simp [hlen]
     ·simp only [List.length_append, List.length_cons, List.length_nil]; omega
   ·rw [decide_eq_false_iff_not] at c1
    have hA2 : decA w = (acc, pl, 0) := by
     rw [<- hA]
     cases n with
     | zero => omega
     | succ n => unfold decAcc; rw [if_neg c1]
    rw [hA2] at hk
    exact needS_intro (by simp only [pureL, pureB, pureL_in, pureL_ints, Bool.and_true]) hk
 ·exact hk.elim
def cRDecAll := addC 51 kRDecAll cDecAll
theorem okRDecAll : Sound env cRDecAll := sound_add sRDecAll (okDecAll)
end Go.Proofs.YtlenjfbmpekabaaDoor
end
