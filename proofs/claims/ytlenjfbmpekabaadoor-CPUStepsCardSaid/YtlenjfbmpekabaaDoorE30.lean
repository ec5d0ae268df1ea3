import Derived.Test.YtlenjfbmpekabaaDoorD30
import Derived.Test.YtlenjfbmpekabaaDoorU30
import Derived.KernelRfl
set_option linter.unusedVariables false
set_option linter.unusedSimpArgs false
namespace Go.Proofs.YtlenjfbmpekabaaDoor
open Go.Pv Go.M29 Go.M30
theorem ldIS_x {w : List Int} {i o : Nat} {K : Int -> Prop} (h : i < w.length) (ho : o = i) (hk : K (w.getD i 0)) : ldIS .u32 (w.map (IV.int .u32)) o K := by
 subst ho
 refine ldIS_map h ?_
 rwa [List.getD_eq_getElem?_getD, List.getElem?_eq_getElem h] at hk
theorem getD_b {w : List Int} (hw : ∀ x ∈ w, u32b x) (i : Nat) : u32b (w.getD i 0) := by
 rw [List.getD_eq_getElem?_getD]
 rcases Nat.lt_or_ge i w.length with h | h
 ·rw [List.getElem?_eq_getElem h]
  exact hw _ (List.getElem_mem h)
 ·rw [List.getElem?_eq_none h]
  exact ⟨by decide, by decide⟩
def decInv (w : List Int) (k : Int) : Inv' := atX Nat (fun j => [(0, .v (.vslice none 0 (w).length 1 ((w).map (IV.int .u32)))), (1, .v (.int .i64 k)), (4, .v (.ptr 0 0)), (8, .l 8 0), (9, .l 9 0), (134, .v (.vslice (some 1) (encW (dI w k)).length (encW (dI w k)).length 1 ((encW (dI w k)).map (IV.int .u32)))), (135, .v (.int .i64 (encW (dI w k)).length)), (136, .v (.int .i64 j))]) (fun _ => [(8, [.int .i64 (dI w k).op, .int .i64 (dI w k).a, .int .i64 (dI w k).b, .int .i64 (dI w k).c, .int .i64 (dI w k).n]), (9, [.str (rowOf ((w.getD k.toNat 0) % 64)).nm, .int .i64 (rowOf ((w.getD k.toNat 0) % 64)).fm, .bool (rowOf ((w.getD k.toNat 0) % 64)).ra, .bool (rowOf ((w.getD k.toNat 0) % 64)).wa, .bool (rowOf ((w.getD k.toNat 0) % 64)).rb, .bool (rowOf ((w.getD k.toNat 0) % 64)).mt, .int .i64 (rowOf ((w.getD k.toNat 0) % 64)).wd])]) (fun _ => ⟨.node (.node .nil (some (.tip (encW (dI w k)).length)) .nil) (some (.cells [.int .i64 0, .int .i64 0, .int .i64 0, .int .i64 0, .int .i64 0])) .nil, 2⟩)
 (fun j => ((0 <= k /\ k < w.length) /\ okI ((w.getD k.toNat 0) % 64) = true /\ (fmI ((w.getD k.toNat 0) % 64) = 6 -> k.toNat + 3 <= w.length)) /\ okIn (dI w k) = true /\ j <= (encW (dI w k)).length /\ ∀ i, i < j -> w[k.toNat + i]? = (encW (dI w k))[i]?) (fun j => (encW (dI w k)).length - j)
def kDecode (xs : List IV) (h : Heap) (K : IV -> Heap -> Prop) : Prop := match xs with
 | [.vslice none e1 n1 1 c1, .int .i64 k] => ∃ w : List Int, (n1 = w.length /\ c1 = w.map (IV.int .u32)) /\ ((∀ x ∈ w, u32b x) /\ (w.length : Int) <= 9223372036854775807 /\ -9223372036854775808 <= k) /\ K (.tuple [.agg [.int .i64 (decR w k).1.op, .int .i64 (decR w k).1.a, .int .i64 (decR w k).1.b, .int .i64 (decR w k).1.c, .int .i64 (decR w k).1.n], .int .i64 (decR w k).2.1, .int .i64 (decR w k).2.2]) h
 | _ => False
noncomputable def z44j (w : List Int) (k : Int) := List.getD w k.toNat 0 % (64 : Int)
noncomputable def z44s (w : List Int) (k : Int) := if fmI (z44j w k) = 6 then wide (List.getD w (k.toNat + 1) 0) (List.getD w (k.toNat + 2) 0) else decN (List.getD w k.toNat 0) (fmI (z44j w k))
noncomputable def z44w (w : List Int) (k : Int) := if fmI (z44j w k) = 4 then List.getD w k.toNat 0 / (4096 : Int) % (8 : Int) else (0 : Int)
noncomputable def z44x (w : List Int) (k : Int) := if fB (fmI (z44j w k)) = true then List.getD w k.toNat 0 / (512 : Int) % (8 : Int) else (0 : Int)
noncomputable def z44y (w : List Int) (k : Int) := if fA (fmI (z44j w k)) = true then List.getD w k.toNat 0 / (64 : Int) % (8 : Int) else (0 : Int)
noncomputable def z44a (w : List Int) (k : Int) := [IV.int .i64 (z44j w k), IV.int .i64 (z44y w k), IV.int .i64 (z44x w k), IV.int .i64 (z44w w k), IV.int .i64 (z44s w k)]
noncomputable def z44b (w : List Int) (k : Int) := [IV.str (Row.nm (rowOf (z44j w k))), IV.int .i64 (Row.fm (rowOf (z44j w k))), IV.bool (Row.ra (rowOf (z44j w k))), IV.bool (Row.wa (rowOf (z44j w k))), IV.bool (Row.rb (rowOf (z44j w k))), IV.bool (Row.mt (rowOf (z44j w k))), IV.int .i64 (Row.wd (rowOf (z44j w k)))]
noncomputable def z44g (n0 : Int) := IntKind.wrap .i64 (bvAnd .u32 n0 63)
noncomputable def z44c (n0 : Int) := [IV.str (Row.nm (rowOf (z44g n0))), IV.int .i64 (Row.fm (rowOf (z44g n0))), IV.bool (Row.ra (rowOf (z44g n0))), IV.bool (Row.wa (rowOf (z44g n0))), IV.bool (Row.rb (rowOf (z44g n0))), IV.bool (Row.mt (rowOf (z44g n0))), IV.int .i64 (Row.wd (rowOf (z44g n0)))]
noncomputable def z44d  := [IV.int .i64 0, IV.int .i64 0, IV.int .i64 0, IV.int .i64 0, IV.int .i64 0]
noncomputable def z44e (w : List Int) (k : Int) := encW (In.mk (z44j w k) (z44y w k) (z44x w k) (z44w w k) (z44s w k))
noncomputable abbrev z44f (w : List Int) (k : Int) := (0 <= k /\ k < (↑w.length : Int)) /\ okI (z44j w k) = true /\ (fmI (z44j w k) = 6 -> k.toNat + 3 <= w.length)
noncomputable def z44h  := PT.node PT.nil (some (IObj.cells z44d)) PT.nil
noncomputable def z44i  := TV.v (.ptr 0 0)
noncomputable def z44k  := TV.l 8 0
noncomputable def z44l  := TV.l 9 0
noncomputable def z44m  := IV.tuple [.agg z44d, IV.int .i64 0, IV.int .i64 204]
noncomputable def z44n (w : List Int) (k : Int) := PT.node (PT.node PT.nil (some (IObj.tip (List.length (encW (dI w k))))) PT.nil) (some (IObj.cells z44d)) PT.nil
noncomputable def z44o (k : Int) := TV.v (.int .i64 k)
noncomputable def z44p (n0 : Int) := IntKind.wrap .i64 (bvAnd .u32 (Int.fdiv n0 (64 : Int)) 7)
noncomputable def z44v  := IV.int .u32
noncomputable def z44q (w : List Int) (k : Int) := TV.v (.vslice (some (1 : Nat)) (List.length (encW (dI w k))) (List.length (encW (dI w k))) 1 (List.map z44v (encW (dI w k))))
noncomputable def z44r (n0 : Int) := IntKind.wrap .i64 (Int.fdiv (IntKind.wrap .i32 n0) ((2 : Int) ^ min (Int.toNat (shI (Row.fm (rowOf (z44g n0))))) (32 : Nat)))
noncomputable def z44t (n0 : Int) := IntKind.wrap .i64 (bvAnd .u32 (Int.fdiv n0 (512 : Int)) 7)
noncomputable def z44u (w : List Int) (k : Int) := TV.v (.int .i64 (↑(List.length (encW (dI w k))) : Int))
set_option maxRecDepth 100000 in
theorem vDecode (w : List Int) (e1 : Nat) (k : Int) (h : Heap) (Q : IV -> Heap -> Prop) : dF (stdS cREncode) env 44 noU (ic1 29 (decInv w k)) (icS (icA 26 (atP ((0 <= k /\ k < w.length) /\ okI ((w.getD k.toNat 0) % 64) = true /\ (fmI ((w.getD k.toNat 0) % 64) = 6 -> k.toNat + 3 <= w.length)) [(0, .v (.vslice none 0 (w).length 1 ((w).map (IV.int .u32)))), (1, .v (.int .i64 k)), (4, .v (.ptr 0 0)), (8, .l 8 0), (9, .l 9 0)] [(8, [.int .i64 (dI w k).op, .int .i64 (dI w k).a, .int .i64 (dI w k).b, .int .i64 (dI w k).c, .int .i64 (dI w k).n]), (9, [.str (rowOf ((w.getD k.toNat 0) % 64)).nm, .int .i64 (rowOf ((w.getD k.toNat 0) % 64)).fm, .bool (rowOf ((w.getD k.toNat 0) % 64)).ra, .bool (rowOf ((w.getD k.toNat 0) % 64)).wa, .bool (rowOf ((w.getD k.toNat 0) % 64)).rb, .bool (rowOf ((w.getD k.toNat 0) % 64)).mt, .int .i64 (rowOf ((w.getD k.toNat 0) % 64)).wd])] ⟨.node .nil (some (.cells [.int .i64 0, .int .i64 0, .int .i64 0, .int .i64 0, .int .i64 0])) .nil, 1⟩) (ic1 34 (atP (((0 <= k /\ k < w.length) /\ okI ((w.getD k.toNat 0) % 64) = true /\ (fmI ((w.getD k.toNat 0) % 64) = 6 -> k.toNat + 3 <= w.length)) /\ okIn (dI w k) = true /\ word1 (dI w k) = (w.getD k.toNat 0)) [(4, .v (.ptr 0 0)), (8, .l 8 0), (9, .l 9 0)] [(8, [.int .i64 (dI w k).op, .int .i64 (dI w k).a, .int .i64 (dI w k).b, .int .i64 (dI w k).c, .int .i64 (dI w k).n]), (9, [.str (rowOf ((w.getD k.toNat 0) % 64)).nm, .int .i64 (rowOf ((w.getD k.toNat 0) % 64)).fm, .bool (rowOf ((w.getD k.toNat 0) % 64)).ra, .bool (rowOf ((w.getD k.toNat 0) % 64)).wa, .bool (rowOf ((w.getD k.toNat 0) % 64)).rb, .bool (rowOf ((w.getD k.toNat 0) % 64)).mt, .int .i64 (rowOf ((w.getD k.toNat 0) % 64)).wd])] ⟨.node (.node .nil (some (.tip (encW (dI w k)).length)) .nil) (some (.cells [.int .i64 0, .int .i64 0, .int .i64 0, .int .i64 0, .int .i64 0])) .nil, 2⟩)))) [.vslice none e1 (w).length 1 ((w).map (IV.int .u32)), .int .i64 k] h Q = (
 needS (pureL [vW w, IV.int .i64 k]) (brS (decide (k < 0)) (Q z44m h) (brS (decide (k >= (↑w.length : Int))) (Q z44m h) (needS (decide (0 <= k) && decide (k < (↑w.length : Int))) (ldIS .u32 (List.map z44v w) (k.toNat * 1) fun n0 => brS (!okI
 (z44g n0)) (Q z44m h) (brS (decide (IntKind.wrap .i64 ((↑w.length : Int) - k) < Row.wd (rowOf (z44g n0)))) (Q z44m h) (needS (decide (0 <= shI (Row.fm (rowOf (z44g n0))))) (brS (Row.fm (rowOf (z44g n0)) == 2) (some (TV.v (vW w)) = some (TV.v (vW w)) /\ some (z44o k) = some
 (z44o k) /\ some z44i = some z44i /\ some z44k = some z44k /\ some z44l = some z44l /\ some [IV.int .i64 (z44g n0), IV.int .i64 (z44p n0), IV.int .i64 0, IV.int .i64 0, IV.int .i64 0] = some (z44a w k) /\ some (z44c n0) = some (z44b w k) /\ Heap.mk
 z44h (1 : Nat) = Heap.mk z44h (1 : Nat) /\ (z44f w k) /\ True) (brS (Row.fm (rowOf (z44g n0)) == 3) (some (TV.v (vW w)) = some (TV.v (vW w)) /\ some (z44o k) = some (z44o k) /\ some z44i = some z44i /\ some z44k = some z44k /\ some z44l = some z44l /\ some [IV.int .i64 (z44g n0), IV.int .i64
 (z44p n0), IV.int .i64 (z44t n0), IV.int .i64 0, IV.int .i64 0] = some (z44a w k) /\ some (z44c n0) = some (z44b w k) /\ Heap.mk z44h (1 : Nat) = Heap.mk z44h (1 : Nat) /\ (z44f w k) /\ True) (brS (Row.fm (rowOf (z44g n0)) == 4) (some (TV.v (vW w)) = some (TV.v
 (vW w)) /\ some (z44o k) = some (z44o k) /\ some z44i = some z44i /\ some z44k = some z44k /\ some z44l = some z44l /\ some [IV.int .i64 (z44g n0), IV.int .i64 (z44p n0), IV.int .i64 (z44t n0), IV.int .i64 (IntKind.wrap .i64 (bvAnd .u32 (Int.fdiv n0 (4096 : Int))
 7)), IV.int .i64 0] = some (z44a w k) /\ some (z44c n0) = some (z44b w k) /\ Heap.mk z44h (1 : Nat) = Heap.mk z44h (1 : Nat) /\ (z44f w k) /\ True) (brS (Row.fm (rowOf (z44g n0)) == 5) (some (TV.v (vW w)) = some (TV.v (vW w)) /\ some (z44o k) = some (z44o k) /\ some z44i = some
 z44i /\ some z44k = some z44k /\ some z44l = some z44l /\ some [IV.int .i64 (z44g n0), IV.int .i64 (z44p n0), IV.int .i64 0, IV.int .i64 0, IV.int .i64 (z44r n0)] = some (z44a w k) /\ some (z44c n0) = some (z44b w k) /\ Heap.mk z44h (1 : Nat) = Heap.mk z44h
 (1 : Nat) /\ (z44f w k) /\ True) (brS (Row.fm (rowOf (z44g n0)) == 6) (needS (decide (0 <= IntKind.wrap .i64 (k + 1)) && decide (IntKind.wrap .i64 (k + 1) < (↑w.length : Int))) (ldIS .u32 (List.map z44v w) (Int.toNat (IntKind.wrap .i64 (k
 + (1 : Int))) * 1) fun n1 => needS (decide (0 <= IntKind.wrap .i64 (k + 2)) && decide (IntKind.wrap .i64 (k + 2) < (↑w.length : Int))) (ldIS .u32 (List.map z44v w) (Int.toNat (IntKind.wrap .i64 (k + 2)) * 1) fun
 (n2 : Int) => some (TV.v (vW w)) = some (TV.v (vW w)) /\ some (z44o k) = some (z44o k) /\ some z44i = some z44i /\ some z44k = some z44k /\ some z44l = some z44l /\ some [IV.int .i64 (z44g n0), IV.int .i64 (z44p n0), IV.int .i64 0, IV.int .i64 0, IV.int .i64
 (IntKind.wrap .i64 (bvOr .u64 (IntKind.wrap .u64 n1) (IntKind.wrap .u64 (IntKind.wrap .u64 n2 * 4294967296))))] = some (z44a w k) /\ some (z44c n0) = some (z44b w k) /\ Heap.mk z44h (1 : Nat) = Heap.mk z44h (1 : Nat) /\ (z44f w k) /\ True))) (brS (Row.fm (rowOf
 (z44g n0)) == 7) (some (TV.v (vW w)) = some (TV.v (vW w)) /\ some (z44o k) = some (z44o k) /\ some z44i = some z44i /\ some z44k = some z44k /\ some z44l = some z44l /\ some [IV.int .i64 (z44g n0), IV.int .i64 (z44p n0), IV.int .i64 (z44t n0), IV.int .i64 0, IV.int
 .i64 (z44r n0)] = some (z44a w k) /\ some (z44c n0) = some (z44b w k) /\ Heap.mk z44h (1 : Nat) = Heap.mk z44h (1 : Nat) /\ (z44f w k) /\ True) (brS (Row.fm (rowOf (z44g n0)) == 8) (some (TV.v (vW w)) = some (TV.v (vW w)) /\ some (z44o k) = some (z44o k) /\ some z44i = some z44i /\ some z44k
 = some z44k /\ some z44l = some z44l /\ some [IV.int .i64 (z44g n0), IV.int .i64 0, IV.int .i64 0, IV.int .i64 0, IV.int .i64 (z44r n0)] = some (z44a w k) /\ some (z44c n0) = some (z44b w k) /\ Heap.mk z44h (1 : Nat) = Heap.mk z44h (1 : Nat) /\ (z44f
 w k) /\ True) (some (TV.v (vW w)) = some (TV.v (vW w)) /\ some (z44o k) = some (z44o k) /\ some z44i = some z44i /\ some z44k = some z44k /\ some z44l = some z44l /\ some [IV.int .i64 (z44g n0), IV.int .i64 0, IV.int .i64 0, IV.int .i64 0, IV.int .i64
 (0 : Int)] = some (z44a w k) /\ some (z44c n0) = some (z44b w k) /\ Heap.mk z44h (1 : Nat) = Heap.mk z44h (1 : Nat) /\ (z44f w k) /\ True))))))))))))) /\ (∀ (x : Unit) (b : FF), (0 <= k /\ k < (↑w.length : Int)) /\ okI (z44j w k) = true /\ (fmI (z44j w k) = 6 -> k.toNat + 3 <=
 w.length) -> brS (!validI (z44j w k) (z44y w k) (z44x w k) (z44w w k) (z44s w k)) (Q z44m h) (validI (z44j w k) (z44y w k) (z44x w k) (z44w w k) (z44s w k) = true /\ (∃ (x : Nat), some (TV.v (vW w)) = some (TV.v (vW w)) /\ some (z44o k) = some (z44o k) /\ some z44i = some z44i /\ some z44k = some z44k
 /\ some z44l = some z44l /\ some (TV.v (.vslice (some (1 : Nat)) (List.length (z44e w k)) (List.length (z44e w k)) 1 (List.map z44v (z44e w k)))) = some (z44q w k) /\ some (TV.v (.int .i64 (↑(List.length (z44e w k)) : Int))) = some (z44u w k) /\ some (TV.v (.int .i64 0))
 = some (TV.v (.int .i64 (↑x : Int))) /\ some (z44a w k) = some (z44a w k) /\ some (z44b w k) = some (z44b w k) /\ Heap.mk (PT.node (PT.node PT.nil (some (IObj.tip (List.length (z44e w k)))) PT.nil) (some (IObj.cells z44d)) PT.nil) ((1 : Nat) + 1) = Heap.mk (z44n w k) (2 : Nat) /\ ((z44f
 w k) /\ okIn (dI w k) = true /\ x <= List.length (encW (dI w k)) /\ ∀ (i : Nat), i < x -> w[k.toNat + i]? = (encW (dI w k))[i]?) /\ True) /\ ∀ (x : Nat) (b : FF), ((z44f w k) /\ okIn (dI w k) = true /\ x <= List.length (encW (dI w k)) /\ ∀ (i : Nat), i < x -> w[k.toNat + i]? = (encW (dI w k))[i]?) -> brS
 (decide ((↑x : Int) < (↑(List.length (encW (dI w k))) : Int))) (needS (decide (0 <= (↑x : Int)) && decide ((↑x : Int) < (↑(List.length (encW (dI w k))) : Int))) (ldIS .u32 (List.map z44v (encW (dI w k))) (Int.toNat (↑x : Int) * 1) fun n3 => needS (decide (0 <= IntKind.wrap
 .i64 (k + (↑x : Int))) && decide (IntKind.wrap .i64 (k + (↑x : Int)) < (↑w.length : Int))) (ldIS .u32 (List.map z44v w) (Int.toNat (IntKind.wrap .i64 (k + (↑x : Int))) * 1) fun n4 => brS (n4 != n3) (Q z44m h) (∃ (x_1 : Nat), some (TV.v (vW w)) = some
 (TV.v (vW w)) /\ some (z44o k) = some (z44o k) /\ some z44i = some z44i /\ some z44k = some z44k /\ some z44l = some z44l /\ some (z44q w k) = some (z44q w k) /\ some (z44u w k) = some (z44u w k) /\ some (TV.v (.int .i64 (IntKind.wrap .i64 ((↑x : Int) + 1)))) = some (TV.v (.int .i64
 (↑x_1 : Int))) /\ some (z44a w k) = some (z44a w k) /\ some (z44b w k) = some (z44b w k) /\ Heap.mk (z44n w k) (2 : Nat) = Heap.mk (z44n w k) (2 : Nat) /\ ((z44f w k) /\ okIn (dI w k) = true /\ x_1 <= List.length (encW (dI w k)) /\ ∀ (i : Nat), i < x_1 -> w[k.toNat + i]? = (encW (dI w k))[i]?) /\ List.length
 (encW (dI w k)) - x_1 < List.length (encW (dI w k)) - x)))) (some z44i = some z44i /\ some z44k = some z44k /\ some z44l = some z44l /\ some (z44a w k) = some (z44a w k) /\ some (z44b w k) = some (z44b w k) /\ Heap.mk (z44n w k) (2 : Nat) = Heap.mk (z44n w k) (2 : Nat) /\ ((z44f w k) /\ okIn (dI w k) = true
 /\ word1 (dI w k) = List.getD w k.toNat 0) /\ True))) /\ (∀ (x : Unit) (b : FF), (z44f w k) /\ okIn (dI w k) = true /\ word1 (dI w k) = List.getD w k.toNat 0 -> Q (.tuple [.agg (z44a w k), IV.int .i64 (Row.wd (rowOf (z44j w k))), IV.int .i64 0]) h) /\ True)) := by kernel_rfl
set_option maxHeartbeats 4000000 in
theorem sDecode : ∀ xs h Q, kDecode xs h Q -> CallW env 44 xs h Q := by
 intro xs h Q hk
 unfold kDecode at hk
 split at hk
 ·rename_i e1 n1 c1 k
  obtain ⟨w, ⟨rfl, rfl⟩, hb, hk⟩ := hk
  refine dF_run (okREncode) (vDecode w e1 k h Q) ?_
  delta vI vW z44a z44b z44c z44d z44e z44f z44g z44h z44i z44j z44k z44l z44m z44n z44o z44p z44q z44r z44s z44t z44u z44v z44w z44x z44y
  obtain ⟨hw, hl, hk0⟩ := hb
  refine needS_intro (by simp only [pureL, pureB, pureL_ints, Bool.and_true]) ⟨brS_intro (fun c1 => ?_) (fun c1 => brS_intro (fun c2 => ?_) (fun c2 => needS_intro (by simp at c1 c2; simp; omega) ?_)), ?_, ?_, trivial⟩
  ·simp only [decide_eq_true_eq] at c1
   rw [show decR w k = err from if_pos (.inl c1)] at hk
   exact hk
  ·simp only [decide_eq_true_eq] at c2
   rw [show decR w k = err from if_pos (.inr c2)] at hk
   exact hk
  ·simp only [decide_eq_false_iff_not] at c1 c2
   refine ldIS_x (i := k.toNat) (by omega) (by omega) ?_
   have hx := getD_b hw k.toNat
   have hx1 := getD_b hw (k.toNat + 1)
   have hx2 := getD_b hw (k.toNat + 2)
   have hR : decR w k = if okI (w.getD k.toNat 0 % 64) = false \/ (fmI (w.getD k.toNat 0 % 64) = 6 /\ w.length < k.toNat + 3) then err else if okIn (dI w k) = true /\ word1 (dI w k) = w.getD k.toNat 0 then (dI w k, if fmI (w.getD k.toNat 0 % 64) = 6 then 3 else 1, 0) else err := if_neg (by omega)
   have hD := dI_def w k
   generalize w.getD k.toNat 0 = x at *
   have f1 : x.fdiv 64 = x / 64 := fdiv_eq _ _ (by omega)
   have f2 : x.fdiv 512 = x / 512 := fdiv_eq _ _ (by omega)
   have f3 : x.fdiv 4096 = x / 4096 := fdiv_eq _ _ (by omega)
   have hwl : IntKind.i64.wrap ((w.length : Int) - k) = w.length - k := IntWalk.i64_in _ (by omega)
   simp only [op_of, reg_of, f1, f2, f3, fm_eq, hwl]
   refine brS_intro (fun c3 => ?_) (fun c3 => ?_)
   ·rw [Bool.not_eq_true'] at c3
    rw [hR, if_pos (.inl c3)] at hk
    exact hk
   rw [Bool.not_eq_false'] at c3
   rw [wd_eq c3]
   refine brS_intro (fun c4 => ?_) (fun c4 => needS_intro (by simp only [decide_eq_true_eq]; unfold shI; repeat' (first | omega | split)) ?_)
   ·simp only [decide_eq_true_eq] at c4
    have : fmI (x % 64) = 6 /\ w.length < k.toNat + 3 := by split at c4 <;> omega
    rw [hR, if_pos (.inr this)] at hk
    exact hk
   simp only [decide_eq_false_iff_not] at c4
   have h6 : fmI (x % 64) = 6 -> k.toNat + 3 <= w.length := fun e => by rw [if_pos e] at c4; omega
   have hdp : (fmI (x % 64) = 8 \/ fmI (x % 64) = 5 \/ fmI (x % 64) = 7) -> IntKind.i64.wrap ((IntKind.i32.wrap x).fdiv (2 ^ min (shI (fmI (x % 64))).toNat 32)) = decN x (fmI (x % 64)) := dec_prog hx
   refine brS_intro (fun d2 => ?_) (fun d2 => brS_intro (fun d3 => ?_) (fun d3 => brS_intro (fun d4 => ?_) (fun d4 => brS_intro (fun d5 => ?_) (fun d5 => brS_intro (fun d6 => ?_) (fun d6 => brS_intro (fun d7 => ?_) (fun d7 => brS_intro (fun d8 => ?_) (fun d8 => ?_)))))))
   all_goals simp only [beq_iff_eq, beq_eq_false_iff_ne, ne_eq] at *
   ·refine ⟨(by first | rfl | trivial), (by first | rfl | trivial), (by first | rfl | trivial), (by first | rfl | trivial), (by first | rfl | trivial), ?_, (by first | rfl | trivial), (by first | rfl | trivial), ⟨⟨by omega, by omega⟩, c3, h6⟩, trivial⟩
    simp [hD, decI, d2, fA, fB, decN]
   ·refine ⟨(by first | rfl | trivial), (by first | rfl | trivial), (by first | rfl | trivial), (by first | rfl | trivial), (by first | rfl | trivial), ?_, (by first | rfl | trivial), (by first | rfl | trivial), ⟨⟨by omega, by omega⟩, c3, h6⟩, trivial⟩
    simp [hD, decI, d3, fA, fB, decN]
   ·refine ⟨(by first | rfl | trivial), (by first | rfl | trivial), (by first | rfl | trivial), (by first | rfl | trivial), (by first | rfl | trivial), ?_, (by first | rfl | trivial), (by first | rfl | trivial), ⟨⟨by omega, by omega⟩, c3, h6⟩, trivial⟩
    simp [hD, decI, d4, fA, fB, decN]
   ·refine ⟨(by first | rfl | trivial), (by first | rfl | trivial), (by first | rfl | trivial), (by first | rfl | trivial), (by first | rfl | trivial), ?_, (by first | rfl | trivial), (by first | rfl | trivial), ⟨⟨by omega, by omega⟩, c3, h6⟩, trivial⟩
    rw [hdp (by omega)]
    simp [hD, decI, d5, fA, fB]
   ·have h6' := h6 d6
    have w1 : IntKind.i64.wrap (k + 1) = k + 1 := IntWalk.i64_in _ (by omega)
    have w2 : IntKind.i64.wrap (k + 2) = k + 2 := IntWalk.i64_in _ (by omega)
    rw [w1, w2]
    refine needS_intro (by simp; omega) (ldIS_x (i := k.toNat + 1) (by omega) (by omega) (needS_intro (by simp; omega) (ldIS_x (i := k.toNat + 2) (by omega) (by omega) ?_)))
    refine ⟨(by first | rfl | trivial), (by first | rfl | trivial), (by first | rfl | trivial), (by first | rfl | trivial), (by first | rfl | trivial), ?_, (by first | rfl | trivial), (by first | rfl | trivial), ⟨⟨by omega, by omega⟩, c3, h6⟩, trivial⟩
    rw [wide_prog hx1 hx2]
    simp [hD, decI, d6, fA, fB]
   ·refine ⟨(by first | rfl | trivial), (by first | rfl | trivial), (by first | rfl | trivial), (by first | rfl | trivial), (by first | rfl | trivial), ?_, (by first | rfl | trivial), (by first | rfl | trivial), ⟨⟨by omega, by omega⟩, c3, h6⟩, trivial⟩
    rw [hdp (by omega)]
    simp [hD, decI, d7, fA, fB]
   ·refine ⟨(by first | rfl | trivial), (by first | rfl | trivial), (by first | rfl | trivial), (by first | rfl | trivial), (by first | rfl | trivial), ?_, (by first | rfl | trivial), (by first | rfl | trivial), ⟨⟨by omega, by omega⟩, c3, h6⟩, trivial⟩
    rw [hdp (by omega)]
    simp [hD, decI, d8, fA, fB]
   ·refine ⟨(by first | rfl | trivial), (by first | rfl | trivial), (by first | rfl | trivial), (by first | rfl | trivial), (by first | rfl | trivial), ?_, (by first | rfl | trivial), (by first | rfl | trivial), ⟨⟨by omega, by omega⟩, c3, h6⟩, trivial⟩
    have : fA (fmI (x % 64)) = false := by
     have := fm_range (op := x % 64) (by unfold okI at c3; simp at c3; exact c3)
     unfold fA
     simp
     omega
    simp [hD, decI, this, fB, decN, d3, d4, d5, d6, d7, d8]
  ·intro _ _ hp
   obtain ⟨⟨h1, h2⟩, hok, h6⟩ := hp
   have hR : decR w k = if okIn (dI w k) = true /\ word1 (dI w k) = w.getD k.toNat 0 then (dI w k, if fmI (w.getD k.toNat 0 % 64) = 6 then 3 else 1, 0) else err := by
    unfold decR
    rw [if_neg (by omega), if_neg (by rw [hok]; simp; exact h6)]
   have hx1 := getD_b hw (k.toNat + 1)
   have hx2 := getD_b hw (k.toNat + 2)
   have hE : encW (dI w k) = if fmI (w.getD k.toNat 0 % 64) = 6 then [word1 (dI w k), w.getD (k.toNat + 1) 0, w.getD (k.toNat + 2) 0] else [word1 (dI w k)] := encW_decI hx1 hx2
   have hlen : (encW (dI w k)).length = if fmI (w.getD k.toNat 0 % 64) = 6 then 3 else 1 := by rw [hE]; split <;> rfl
   refine brS_intro (fun c1 => ?_) (fun c1 => ?_)
   ·rw [Bool.not_eq_true'] at c1
    have c1' : okIn (dI w k) = false := c1
    rw [hR, if_neg (by rw [c1']; simp)] at hk
    exact hk
   ·rw [Bool.not_eq_false'] at c1
    have hv : okIn (dI w k) = true := c1
    refine ⟨c1, ⟨0, (by first | rfl | trivial), (by first | rfl | trivial), (by first | rfl | trivial), (by first | rfl | trivial), (by first | rfl | trivial), (by first | rfl | trivial), (by first | rfl | trivial), (by first | rfl | trivial), (by first | rfl | trivial), (by first | rfl | trivial), (by first | rfl | trivial), ⟨⟨⟨h1, h2⟩, hok, h6⟩, hv, Nat.zero_le _, fun i hi => by omega⟩, trivial⟩, fun j _ hj => ?_⟩
    obtain ⟨_, _, hj1, hj2⟩ := hj
    refine brS_intro (fun c2 => ?_) (fun c2 => ?_)
    ·simp only [decide_eq_true_eq] at c2
     have hjl : j < (encW (dI w k)).length := by omega
     have hkj : k.toNat + j < w.length := by
      rw [hlen] at hjl
      split at hjl
      ·rename_i q; have := h6 q; omega
      ·omega
     have hw1 : IntKind.i64.wrap (k + (j : Int)) = k + j := IntWalk.i64_in _ (by omega)
     rw [hw1]
     refine needS_intro (by simp; omega) ?_
     rw [show Int.toNat (j : Int) * 1 = j by omega]
     refine ldIS_map hjl (needS_intro (by simp; omega) ?_)
     rw [show Int.toNat (k + (j : Int)) * 1 = k.toNat + j by omega]
     refine ldIS_map hkj (brS_intro (fun c3 => ?_) (fun c3 => ?_))
     ·rw [bne_iff_ne] at c3
      have hne : ¬ word1 (dI w k) = w.getD k.toNat 0 := fun e => c3 (by
       have hj3 : j < 3 := by rw [hlen] at hjl; split at hjl <;> omega
       by_cases f6 : fmI (w.getD k.toNat 0 % 64) = 6
       ·rw [if_pos f6] at hE
        have : j = 0 \/ j = 1 \/ j = 2 := by omega
        rcases this with rfl | rfl | rfl
        ·simp only [hE, List.getElem_cons_zero, e]
         rw [List.getD_eq_getElem?_getD, List.getElem?_eq_getElem (by omega)]; rfl
        ·simp only [hE, List.getElem_cons_succ, List.getElem_cons_zero]
         rw [List.getD_eq_getElem?_getD, List.getElem?_eq_getElem hkj]; rfl
        ·simp only [hE, List.getElem_cons_succ, List.getElem_cons_zero]
         rw [List.getD_eq_getElem?_getD, List.getElem?_eq_getElem hkj]; rfl
       ·rw [if_neg f6] at hE
        obtain rfl : j = 0 := by rw [hlen, if_neg f6] at hjl; omega
        simp only [hE, List.getElem_cons_zero, e]
        rw [List.getD_eq_getElem?_getD, List.getElem?_eq_getElem (by omega)]; rfl)
      rw [hR, if_neg (fun q => hne q.2)] at hk
      exact hk
     ·have c3' : w[k.toNat + j] = (encW (dI w k))[j] := by simpa using c3
      refine ⟨j + 1, (by first | rfl | trivial), (by first | rfl | trivial), (by first | rfl | trivial), (by first | rfl | trivial), (by first | rfl | trivial), (by first | rfl | trivial), (by first | rfl | trivial), ?_, (by first | rfl | trivial), (by first | rfl | trivial), (by first | rfl | trivial), ⟨⟨⟨h1, h2⟩, hok, h6⟩, hv, by omega, fun i hi => ?_⟩, by omega⟩
      ·rw [IntWalk.i64_in _ (by omega)]; rfl
      ·rcases Nat.lt_or_ge i j with z | z
       ·exact hj2 i z
       ·obtain rfl : i = j := by omega
        rw [List.getElem?_eq_getElem hkj, List.getElem?_eq_getElem hjl, c3']
    ·simp only [decide_eq_false_iff_not] at c2
     have h0 := hj2 0 (by rw [hlen] at c2; split at c2 <;> omega)
     have e0 : (encW (dI w k))[0]? = some (word1 (dI w k)) := by rw [hE]; split <;> rfl
     rw [e0, Nat.add_zero] at h0
     refine ⟨(by first | rfl | trivial), (by first | rfl | trivial), (by first | rfl | trivial), (by first | rfl | trivial), (by first | rfl | trivial), (by first | rfl | trivial), ⟨⟨⟨h1, h2⟩, hok, h6⟩, hv, ?_⟩, trivial⟩
     rw [List.getD_eq_getElem?_getD, h0]; rfl
  ·intro _ _ hp
   obtain ⟨⟨⟨h1, h2⟩, hok, h6⟩, hv, hx⟩ := hp
   have hR : decR w k = (dI w k, if fmI (w.getD k.toNat 0 % 64) = 6 then 3 else 1, 0) := by
    unfold decR
    rw [if_neg (by omega), if_neg (by rw [hok]; simp; exact h6), if_pos ⟨hv, hx⟩]
   rw [wd_eq hok]
   rw [hR] at hk
   exact hk
 ·exact hk.elim
def cDecode := addC 44 kDecode cREncode
theorem okDecode : Sound env cDecode := sound_add sDecode (okREncode)
end Go.Proofs.YtlenjfbmpekabaaDoor
