import Derived.Test.YtlenjfbmpekabaaDoorV31
import Derived.Test.YtlenjfbmpekabaaDoorW31
import Derived.KernelRfl
set_option linter.unusedVariables false
set_option linter.unusedSimpArgs false
namespace Go.Proofs.YtlenjfbmpekabaaDoor
open Go.Pv Go.M29 Go.M30
def retL (l : List Int) : List In := insK l 24 ++ [⟨2, 0, 0, 0, 0⟩]
theorem insK_le (l : List Int) : (insK l 24).length <= 24 := by
 unfold insK
 simp
 omega
theorem retL_len (l : List Int) : 1 <= (retL l).length /\ (retL l).length <= 25 := by
 have := insK_le l
 unfold retL
 rw [List.length_append]
 simp
 omega
theorem retL_ok {l : List Int} (h : ∀ a ∈ l, -9223372036854775808 <= a /\ a <= 9223372036854775807) : ∀ i ∈ retL l, okIn i = true /\ rng i := by
 intro i hi
 unfold retL at hi
 rcases List.mem_append.1 hi with z | z
 ·unfold insK at z
  obtain ⟨a, ha, rfl⟩ := List.mem_map.1 z
  exact ⟨kin_valid a (h a (List.mem_of_mem_take ha)), kin_rng a⟩
 ·rw [List.mem_singleton] at z
  subst z
  exact ⟨by decide, by unfold rng; simp⟩
def biA (l : List Int) : Inv' := atX (Nat × Heap) (fun x => [(2, .l 2 0), (3, .v (.hslice x.1 0 (retL l).length 5))]) (fun _ => [(2, [.nilslice, .nilslice, .nilslice, .nilslice, .nilslice])]) (fun x => x.2) (fun x => x.2.get x.1 = .cells ((retL l).flatMap cIns) /\ x.1 < x.2.next) (fun _ => 0)
def biI1 (l : List Int) : Inv' := .or
 (atX (Nat × Heap) (fun x => [(2, .l 2 0), (3, .v (.hslice x.1 0 (retL l).length 5)), (4, .v .nilslice), (5, .v (.int .i64 0)), (6, .v (.int .i64 0))]) (fun _ => [(2, [.nilslice, .nilslice, .nilslice, .nilslice, .nilslice])]) (fun x => x.2) (fun x => x.2.get x.1 = .cells ((retL l).flatMap cIns) /\ x.1 < x.2.next) (fun _ => (retL l).length))
 (atX (Nat × Nat × Nat × Heap) (fun x => [(2, .l 2 0), (3, .v (.hslice x.2.1 0 (retL l).length 5)), (4, .v (.vslice (some x.2.2.1) x.1 x.1 1 (((places 0 (retL l)).take x.1).map (IV.int .i64)))), (5, .v (.int .i64 (encT (retL l) x.1).length)), (6, .v (.int .i64 x.1))]) (fun _ => [(2, [.nilslice, .nilslice, .nilslice, .nilslice, .nilslice])]) (fun x => x.2.2.2)
  (fun x => (1 <= x.1 /\ x.1 <= (retL l).length) /\ x.2.2.2.get x.2.1 = .cells ((retL l).flatMap cIns) /\ x.2.1 < x.2.2.2.next /\ x.2.2.2.get x.2.2.1 = .tip x.1) (fun x => (retL l).length - x.1))
def biB (l : List Int) : Inv' := atX (Nat × Nat × Heap) (fun x => [(2, .l 2 0), (3, .v (.hslice x.1 0 (retL l).length 5)), (4, .v (.vslice (some x.2.1) (retL l).length (retL l).length 1 ((places 0 (retL l)).map (IV.int .i64))))]) (fun _ => [(2, [.nilslice, .nilslice, .nilslice, .nilslice, .nilslice])]) (fun x => x.2.2) (fun x => x.2.2.get x.1 = .cells ((retL l).flatMap cIns) /\ x.1 < x.2.2.next) (fun _ => 0)
def biI2 (l : List Int) : Inv' := atX (Nat × List In × Nat × Nat × Heap) (fun x => [(2, .l 2 0), (3, .v (.hslice x.2.2.1 0 (retL l).length 5)), (4, .v (.vslice (some x.2.2.2.1) (retL l).length (retL l).length 1 ((places 0 (retL l)).map (IV.int .i64)))), (9, .v (.int .i64 x.1))]) (fun _ => [(2, [.nilslice, .nilslice, .nilslice, .nilslice, .nilslice])]) (fun x => x.2.2.2.2)
 (fun x => x.1 <= (retL l).length /\ x.2.2.2.2.get x.2.2.1 = .cells (x.2.1.flatMap cIns) /\ x.2.2.1 < x.2.2.2.2.next /\ fixedL (retL l) x.2.1 x.1) (fun x => (retL l).length - x.1)
def biC (l : List Int) : Inv' := atX (List In × Nat × Nat × Heap) (fun x => [(2, .l 2 0), (3, .v (.hslice x.2.1 0 (retL l).length 5)), (4, .v (.vslice (some x.2.2.1) (retL l).length (retL l).length 1 ((places 0 (retL l)).map (IV.int .i64))))]) (fun _ => [(2, [.nilslice, .nilslice, .nilslice, .nilslice, .nilslice])]) (fun x => x.2.2.2)
 (fun x => x.2.2.2.get x.2.1 = .cells (x.1.flatMap cIns) /\ x.2.1 < x.2.2.2.next /\ fixedL (retL l) x.1 (retL l).length) (fun _ => 0)
def kBinary (xs : List IV) (h : Heap) (K : IV -> Heap -> Prop) : Prop := match xs with
 | [.vslice none e1 n1 1 c1] => ∃ l : List Int, (n1 = l.length /\ c1 = l.map (IV.int .i64)) /\ (l.length < 4611686018427387904 /\ ∀ a ∈ l, -9223372036854775808 <= a /\ a <= 9223372036854775807) /\ ∀ (w : List Int) (m : Int), VB ⟨w, [0, m], [2, 1], [5, 2], [3, 2]⟩ -> (∀ x ∈ w, u32b x) -> w.length <= 1000 -> K (.agg [.vslice none 0 w.length 1 (w.map (IV.int .u32)), .vslice none 0 2 1 [.int .i64 0, .int .i64 m], .vslice none 0 2 1 [.int .i64 2, .int .i64 1], .vslice none 0 2 1 [.int .i64 5, .int .i64 2], .vslice none 0 2 1 [.int .i64 3, .int .i64 2]]) h
 | _ => False
noncomputable def z11a  := [IV.nilslice, IV.nilslice, IV.nilslice, IV.nilslice, IV.nilslice]
noncomputable def z11b (l : List Int) := List.length (retL l)
noncomputable def z11i  := IV.int .i64
noncomputable def z11j (l : List Int) := places (0 : Int) (retL l)
noncomputable def z11c (l : List Int) := List.map z11i (z11j l)
noncomputable def z11d  := TV.l 2 0
noncomputable def z11e  := TV.v (.int .i64 0)
noncomputable def z11f (l : List Int) := List.flatMap cIns (retL l)
noncomputable def z11g  := [IV.int .i64 2, IV.int .i64 0, IV.int .i64 0, IV.int .i64 0, IV.int .i64 0]
noncomputable def z11h (n14 n15 : Int) := [IV.int .i64 (IntKind.wrap .i64 (n14 - n15))]
noncomputable def z11k  := TV.v IV.nilslice
noncomputable def z11l (n2 : Int) := TV.v (.int .i64 (IntKind.wrap .i64 ((0 : Int) + Row.wd (rowOf n2))))
noncomputable def z11m  := [IV.int .i64 2, IV.int .i64 1]
noncomputable def z11n  := [IV.int .i64 5, IV.int .i64 2]
noncomputable def z11o  := [IV.int .i64 3, IV.int .i64 2]
set_option maxRecDepth 100000 in
theorem vBinary (l : List Int) (e1 : Nat) (h : Heap) (Q : IV -> Heap -> Prop) : dF (stdS cMutB) env 11 noU (icA 7 (biI1 l) (ic1 13 (biI2 l))) (icS (icA 4 (biA l) (icA 12 (biB l) (ic1 20 (biC l))))) [.vslice none e1 (l).length 1 ((l).map (IV.int .i64))] h Q = (
 needS (pureL [IV.vslice none 0 l.length 1 (List.map z11i l)]) ((∃ (l_1 : List Int), (l.length = l_1.length /\ List.map z11i l = List.map z11i l_1) /\ (l_1.length < 4611686018427387904 /\ (24 : Int) <= 1000000) /\ (insK l_1 (24 : Int) = [] -> ∃ (x : Nat
 × Heap), some z11d = some z11d /\ some (TV.v (.hslice 0 0 1 5)) = some (TV.v (.hslice x.1 0 (z11b l) 5)) /\ some z11a = some z11a /\ Heap.mk (PT.node PT.nil (some (IObj.cells z11g)) PT.nil) ((0 : Nat) + 1) = x.2 /\ (Heap.get (Prod.snd
 x) x.1 = IObj.cells (z11f l) /\ x.1 < Heap.next x.2) /\ True) /\ (insK l_1 (24 : Int) ≠ [] -> ∀ (g : Nat) (h' : Heap), Heap.get h' g = IObj.cells (List.flatMap cIns (insK l_1 (24 : Int))) -> g < Heap.next h' -> hgetS h' g fun r0 => needS (true && (Nat.ble (List.length (insK
 l_1 (24 : Int)) * 5) r0.length && Nat.ble ((List.length (insK l_1 (24 : Int)) + 1) * 40) (140737488355328 : Nat))) (∃ (x : Nat × Heap), some z11d = some z11d /\ some (TV.v (.hslice (Heap.next h') 0 (List.length (insK l_1 (24 : Int)) + 1) 5)) = some
 (TV.v (.hslice x.1 0 (z11b l) 5)) /\ some z11a = some z11a /\ Heap.push (Heap.set h' g IObj.dead) (IObj.cells (List.take (List.length (insK l_1 (24 : Int)) * 5) r0 ++ z11g)) = x.2 /\ (Heap.get x.2 x.1 = IObj.cells (z11f l) /\ x.1 < Heap.next
 x.2) /\ True))) /\ (∀ (x : Nat × Heap) (b : FF), Heap.get x.2 x.1 = IObj.cells (z11f l) /\ x.1 < Heap.next x.2 -> ((∃ (x_1 : Nat × Heap), some z11d = some z11d /\ some (TV.v (.hslice x.1 0 (z11b l) 5)) = some (TV.v (.hslice (Prod.fst
 x_1) 0 (z11b l) 5)) /\ some z11k = some z11k /\ some z11e = some z11e /\ some z11e = some z11e /\ some z11a = some z11a /\ x.2 = x_1.2 /\ (Heap.get x_1.2 x_1.1 = IObj.cells (z11f l) /\ x_1.1 < Heap.next x_1.2) /\ True) \/ ∃ (x_1 : Nat × Nat × Nat
 × Heap), some z11d = some z11d /\ some (TV.v (.hslice x.1 0 (z11b l) 5)) = some (TV.v (.hslice x_1.2.1 0 (z11b l) 5)) /\ some z11k = some (TV.v (.vslice (some x_1.2.2.1) x_1.1 x_1.1 1 (List.map
 z11i (List.take x_1.1 (z11j l))))) /\ some z11e = some (TV.v (.int .i64 (↑(List.length (encT (retL l) x_1.1)) : Int))) /\ some z11e = some (TV.v (.int .i64 (↑x_1.1 : Int))) /\ some z11a = some z11a /\ x.2 = x_1.2.2.2 /\ (((1 : Nat)
 <= x_1.1 /\ x_1.1 <= List.length (retL l)) /\ Heap.get x_1.2.2.2 x_1.2.1 = IObj.cells (z11f l) /\ x_1.2.1 < Heap.next x_1.2.2.2 /\ Heap.get x_1.2.2.2 (Prod.fst (Prod.snd (Prod.snd
 x_1))) = IObj.tip x_1.1) /\ True) /\ (∀ (x : Nat × Heap) (b : FF), Heap.get x.2 x.1 = IObj.cells (z11f l) /\ x.1 < Heap.next x.2 -> brS (decide (0 < (↑(z11b l) : Int))) (needS (true && decide (0 < (↑(z11b l) : Int))) (hgetS x.2 (Prod.fst
 x) fun r1 => ldIS .i64 r1 0 fun n2 => (∃ (x_1 : Nat × Heap), some z11d = some z11d /\ some (TV.v (.hslice x.1 0 (z11b l) 5)) = some (TV.v (.hslice x_1.1 0 (z11b l) 5)) /\ some (TV.v (.vslice (some (Heap.next (Prod.snd
 x))) 1 1 1 [IV.int .i64 0])) = some z11k /\ some (z11l n2) = some z11e /\ some (TV.v (.int .i64 1)) = some z11e /\ some z11a = some z11a /\ Heap.push x.2 (IObj.tip (1 : Nat)) = x_1.2 /\ (Heap.get x_1.2 x_1.1 = IObj.cells
 (z11f l) /\ x_1.1 < Heap.next x_1.2) /\ List.length (retL l) < List.length (retL l)) \/ ∃ (x_1 : Nat × Nat × Nat × Heap), some z11d = some z11d /\ some (TV.v (.hslice x.1 0 (z11b l) 5)) = some (TV.v (.hslice x_1.2.1 0 (z11b l) 5))
 /\ some (TV.v (.vslice (some (Heap.next x.2)) 1 1 1 [IV.int .i64 0])) = some (TV.v (.vslice (some x_1.2.2.1) x_1.1 x_1.1 1 (List.map z11i (List.take x_1.1 (z11j l))))) /\ some (z11l n2) = some
 (TV.v (.int .i64 (↑(List.length (encT (retL l) x_1.1)) : Int))) /\ some (TV.v (.int .i64 1)) = some (TV.v (.int .i64 (↑x_1.1 : Int))) /\ some z11a = some z11a /\ Heap.push x.2 (IObj.tip (1 : Nat)) = x_1.2.2.2 /\ (((1 :
 Nat) <= x_1.1 /\ x_1.1 <= List.length (retL l)) /\ Heap.get x_1.2.2.2 x_1.2.1 = IObj.cells (z11f l) /\ x_1.2.1 < Heap.next x_1.2.2.2 /\ Heap.get x_1.2.2.2 (Prod.fst (Prod.snd (Prod.snd
 x_1))) = IObj.tip x_1.1) /\ List.length (retL l) - x_1.1 < List.length (retL l))) (∃ (x_1 : Nat × Nat × Heap), some z11d = some z11d /\ some (TV.v (.hslice x.1 0 (z11b l) 5)) = some (TV.v (.hslice x_1.1 0 (z11b l) 5)) /\ some z11k = some
 (TV.v (.vslice (some x_1.2.1) (z11b l) (z11b l) 1 (z11c l))) /\ some z11a = some z11a /\ x.2 = x_1.2.2 /\ (Heap.get x_1.2.2 x_1.1 = IObj.cells (z11f l) /\ x_1.1 < Heap.next x_1.2.2) /\ True)) /\ ∀ (x : Nat
 × Nat × Nat × Heap) (b : FF), (1 <= x.1 /\ x.1 <= List.length (retL l)) /\ Heap.get x.2.2.2 x.2.1 = IObj.cells (z11f l) /\ x.2.1 < Heap.next x.2.2.2 /\ Heap.get x.2.2.2 (Prod.fst
 x.2.2) = IObj.tip x.1 -> brS (decide ((↑x.1 : Int) < (↑(z11b l) : Int))) (needS (decide (0 <= (↑x.1 : Int)) && decide ((↑x.1 : Int) < (↑(z11b l) : Int))) (hgetS x.2.2.2 x.2.1 fun r3 =>
 ldIS .i64 r3 ((0 : Nat) + Int.toNat (↑x.1 : Int) * 5 + (0 : Nat)) fun n4 => tipS x.2.2.2 x.2.2.1 fun (m5 : Nat) => needS (Nat.beq m5 x.1 && Nat.ble ((x.1 + 1) * 8) (140737488355328 :
 Nat)) ((∃ (x_1 : Nat × Heap), some z11d = some z11d /\ some (TV.v (.hslice x.2.1 0 (z11b l) 5)) = some (TV.v (.hslice x_1.1 0 (z11b l) 5)) /\ some (TV.v (.vslice (some x.2.2.1) (x.1 + 1) (Prod.fst
 x + 1) 1 (List.map z11i (List.take x.1 (z11j l)) ++ [IV.int .i64 (↑(List.length (encT (retL l) x.1)) : Int)]))) = some z11k /\ some (TV.v (.int .i64 (IntKind.wrap .i64 ((↑(List.length (encT (retL l) x.1)) : Int) + Row.wd (rowOf n4)))))
 = some z11e /\ some (TV.v (.int .i64 (IntKind.wrap .i64 ((↑x.1 : Int) + 1)))) = some z11e /\ some z11a = some z11a /\ Heap.set x.2.2.2 x.2.2.1 (IObj.tip (x.1 + 1)) = x_1.2 /\ (Heap.get x_1.2
 x_1.1 = IObj.cells (z11f l) /\ x_1.1 < Heap.next x_1.2) /\ List.length (retL l) < List.length (retL l) - x.1) \/ ∃ (x_1 : Nat × Nat × Nat × Heap), some z11d = some z11d /\ some (TV.v (.hslice x.2.1 0 (z11b l) 5)) = some (TV.v (.hslice
 x_1.2.1 (0 : Nat) (z11b l) (5 : Nat))) /\ some (TV.v (.vslice (some x.2.2.1) (x.1 + 1) (x.1 + 1) 1 (List.map z11i (List.take x.1 (z11j l)) ++ [IV.int .i64 (↑(List.length (encT (retL l) x.1)) :
 Int)]))) = some (TV.v (.vslice (some x_1.2.2.1) x_1.1 x_1.1 1 (List.map z11i (List.take x_1.1 (z11j l))))) /\ some (TV.v (.int .i64 (IntKind.wrap .i64 ((↑(List.length (encT (retL l) x.1)) : Int) + Row.wd (rowOf n4)))))
 = some (TV.v (.int .i64 (↑(List.length (encT (retL l) x_1.1)) : Int))) /\ some (TV.v (.int .i64 (IntKind.wrap .i64 ((↑x.1 : Int) + 1)))) = some (TV.v (.int .i64 (↑x_1.1 : Int))) /\ some z11a = some z11a /\ Heap.set (Prod.snd (Prod.snd
 x.2)) x.2.2.1 (IObj.tip (x.1 + 1)) = x_1.2.2.2 /\ ((1 <= x_1.1 /\ x_1.1 <= List.length (retL l)) /\ Heap.get x_1.2.2.2 x_1.2.1 = IObj.cells (z11f l) /\ Prod.fst (Prod.snd
 x_1) < Heap.next x_1.2.2.2 /\ Heap.get x_1.2.2.2 x_1.2.2.1 = IObj.tip x_1.1) /\ List.length (retL l) - x_1.1 < List.length (retL l) - x.1))) (∃ (x_1 : Nat × Nat × Heap), some z11d = some z11d /\ some
 (TV.v (.hslice x.2.1 0 (z11b l) 5)) = some (TV.v (.hslice x_1.1 0 (z11b l) 5)) /\ some (TV.v (.vslice (some x.2.2.1) x.1 x.1 1 (List.map z11i (List.take x.1 (z11j l))))) = some
 (TV.v (.vslice (some x_1.2.1) (z11b l) (z11b l) 1 (z11c l))) /\ some z11a = some z11a /\ x.2.2.2 = x_1.2.2 /\ (Heap.get x_1.2.2 x_1.1 = IObj.cells (z11f l) /\ x_1.1 < Heap.next x_1.2.2)
 /\ True)) /\ (∀ (x : Nat × Nat × Heap) (b : FF), Heap.get x.2.2 x.1 = IObj.cells (z11f l) /\ x.1 < Heap.next x.2.2 -> (∃ (x_1 : Nat × List In × Nat × Nat × Heap), some z11d = some z11d /\ some (TV.v (.hslice x.1 0 (z11b l) 5))
 = some (TV.v (.hslice x_1.2.2.1 0 (z11b l) 5)) /\ some (TV.v (.vslice (some x.2.1) (z11b l) (z11b l) 1 (z11c l))) = some (TV.v (.vslice (some x_1.2.2.2.1) (z11b l) (z11b l) 1 (z11c l)))
 /\ some z11e = some (TV.v (.int .i64 (↑x_1.1 : Int))) /\ some z11a = some z11a /\ x.2.2 = x_1.2.2.2.2 /\ (x_1.1 <= List.length (retL l) /\ Heap.get x_1.2.2.2.2 x_1.2.2.1
 = IObj.cells (List.flatMap cIns x_1.2.1) /\ x_1.2.2.1 < Heap.next x_1.2.2.2.2 /\ fixedL (retL l) x_1.2.1 x_1.1) /\ True) /\ ∀ (x : Nat × List In × Nat × Nat × Heap) (b : FF), x.1 <= List.length
 (retL l) /\ Heap.get x.2.2.2.2 x.2.2.1 = IObj.cells (List.flatMap cIns x.2.1) /\ x.2.2.1 < Heap.next x.2.2.2.2 /\ fixedL (retL l) x.2.1 (Prod.fst
 x) -> brS (decide ((↑x.1 : Int) < (↑(z11b l) : Int))) (needS (decide (0 <= (↑x.1 : Int)) && decide ((↑x.1 : Int) < (↑(z11b l) : Int))) (hgetS x.2.2.2.2 x.2.2.1 fun r6 => ldIS .i64 r6 ((0
 : Nat) + Int.toNat (↑x.1 : Int) * 5) fun n7 => ldIS .i64 r6 ((0 : Nat) + Int.toNat (↑x.1 : Int) * 5 + (1 : Nat)) fun n8 => ldIS .i64 r6 ((0 : Nat) + Int.toNat (↑x.1 : Int) * 5 + (1 : Nat) + 1) fun n9 => ldIS
 .i64 r6 ((0 : Nat) + Int.toNat (↑x.1 : Int) * 5 + (1 : Nat) + 1 + (1 : Nat)) fun n10 => ldIS .i64 r6 ((0 : Nat) + Int.toNat (↑x.1 : Int) * 5 + (1 : Nat) + 1 + (1 : Nat) + 1) fun n11 => brS (Prod.snd (cfl n7 n8 n9
 n10 n11)) (needS (decide (0 <= (↑x.1 : Int)) && decide ((↑x.1 : Int) < (↑(z11b l) : Int))) (hgetS x.2.2.2.2 x.2.2.1 fun r12 => ldIS .i64 r12 ((0 : Nat) + Int.toNat (↑x.1 : Int) * 5
 + (4 : Nat)) fun n13 => (0 < (↑(z11b l) : Int) /\ (↑(z11b l) : Int) < 4611686018427387904) /\ needS (decide (0 <= IntKind.wrap .i64 ((↑x.1 : Int) + n13) % (↑(z11b l) : Int)) && decide (IntKind.wrap .i64 ((↑x.1 : Int) + n13) % (↑(z11b l) : Int)
 < (↑(z11b l) : Int))) (ldIS .i64 (z11c l) (Int.toNat (IntKind.wrap .i64 ((↑x.1 : Int) + n13) % (↑(z11b l) : Int)) * 1) fun n14 => needS (decide (0 <= (↑x.1 : Int)) && decide ((↑x.1 : Int) < (↑(z11b l) : Int))) (ldIS .i64 (z11c l)
 (Int.toNat (↑x.1 : Int) * 1) fun n15 => needS (decide (0 <= (↑x.1 : Int)) && decide ((↑x.1 : Int) < (↑(z11b l) : Int))) (hgetS x.2.2.2.2 x.2.2.1 fun r16 => needS (Nat.ble ((0 :
 Nat) + Int.toNat (↑x.1 : Int) * 5 + (4 : Nat) + 1) r16.length) (needS (decide (0 <= (↑x.1 : Int)) && decide ((↑x.1 : Int) < (↑(z11b l) : Int))) (hgetS (Heap.set x.2.2.2.2 x.2.2.1 (IObj.cells
 (List.take ((0 : Nat) + Int.toNat (↑x.1 : Int) * 5 + (4 : Nat)) r16 ++ (z11h n14 n15) ++ List.drop ((0 : Nat) + Int.toNat (↑x.1 : Int) * 5 + (4 : Nat) + 1) r16))) x.2.2.1 fun r17 => ldIS .i64 r17 ((0 : Nat) + Int.toNat
 (↑x.1 : Int) * 5 + (0 : Nat)) fun n18 => brS (n18 == 6) (needS (decide (0 <= (↑x.1 : Int)) && decide ((↑x.1 : Int) < (↑(z11b l) : Int))) (hgetS (Heap.set x.2.2.2.2 x.2.2.1 (IObj.cells
 (List.take ((0 : Nat) + Int.toNat (↑x.1 : Int) * 5 + (4 : Nat)) r16 ++ (z11h n14 n15) ++ List.drop ((0 : Nat) + Int.toNat (↑x.1 : Int) * 5 + (4 : Nat) + 1) r16))) x.2.2.1 fun r19 => ldIS .i64 r19 ((0 : Nat) + Int.toNat
 (↑x.1 : Int) * 5 + (4 : Nat)) fun n20 => needS (decide (0 <= (↑x.1 : Int)) && decide ((↑x.1 : Int) < (↑(z11b l) : Int))) (hgetS (Heap.set x.2.2.2.2 x.2.2.1 (IObj.cells (List.take ((0 : Nat)
 + Int.toNat (↑x.1 : Int) * 5 + (4 : Nat)) r16 ++ (z11h n14 n15) ++ List.drop ((0 : Nat) + Int.toNat (↑x.1 : Int) * 5 + (4 : Nat) + 1) r16))) x.2.2.1 fun r21 => needS (Nat.ble ((0 : Nat) + Int.toNat (↑x.1 : Int)
 * (5 : Nat) + 1 + (1 : Nat)) r21.length) (∃ (x_1 : Nat × List In × Nat × Nat × Heap), some z11d = some z11d /\ some (TV.v (.hslice x.2.2.1 0 (z11b l) 5)) = some (TV.v (.hslice x_1.2.2.1 0 (z11b l) 5))
 /\ some (TV.v (.vslice (some x.2.2.2.1) (z11b l) (z11b l) 1 (z11c l))) = some (TV.v (.vslice (some x_1.2.2.2.1) (z11b l) (z11b l) 1 (z11c l))) /\ some (TV.v (.int .i64 (IntKind.wrap .i64 ((↑(Prod.fst
 x) : Int) + 1)))) = some (TV.v (.int .i64 (↑x_1.1 : Int))) /\ some z11a = some z11a /\ Heap.set (Heap.set x.2.2.2.2 x.2.2.1 (IObj.cells (List.take ((0 : Nat) + Int.toNat (↑x.1 : Int) * 5 + (4 : Nat))
 r16 ++ (z11h n14 n15) ++ List.drop ((0 : Nat) + Int.toNat (↑x.1 : Int) * 5 + (4 : Nat) + 1) r16))) x.2.2.1 (IObj.cells (List.take ((0 : Nat) + Int.toNat (↑x.1 : Int) * 5 + (1 : Nat)) r21 ++ [IV.int .i64 (IntKind.wrap .i64
 ((2 : Int) - n20))] ++ List.drop ((0 : Nat) + Int.toNat (↑x.1 : Int) * 5 + (1 : Nat) + 1) r21)) = x_1.2.2.2.2 /\ (x_1.1 <= List.length (retL l) /\ Heap.get x_1.2.2.2.2 x_1.2.2.1
 = IObj.cells (List.flatMap cIns x_1.2.1) /\ x_1.2.2.1 < Heap.next x_1.2.2.2.2 /\ fixedL (retL l) x_1.2.1 x_1.1) /\ List.length (retL l) - x_1.1 < List.length (retL l) - x.1)))) (∃ (x_1
 : Nat × List In × Nat × Nat × Heap), some z11d = some z11d /\ some (TV.v (.hslice x.2.2.1 0 (z11b l) 5)) = some (TV.v (.hslice x_1.2.2.1 0 (z11b l) 5)) /\ some (TV.v (.vslice (some (Prod.fst (Prod.snd (Prod.snd
 x.2)))) (z11b l) (z11b l) 1 (z11c l))) = some (TV.v (.vslice (some x_1.2.2.2.1) (z11b l) (z11b l) 1 (z11c l))) /\ some (TV.v (.int .i64 (IntKind.wrap .i64 ((↑x.1 : Int) + 1)))) = some (TV.v (.int .i64
 (↑x_1.1 : Int))) /\ some z11a = some z11a /\ Heap.set x.2.2.2.2 x.2.2.1 (IObj.cells (List.take ((0 : Nat) + Int.toNat (↑x.1 : Int) * 5 + (4 : Nat)) r16 ++ (z11h n14 n15) ++ List.drop ((0 : Nat) + Int.toNat (↑(Prod.fst
 x) : Int) * 5 + (4 : Nat) + 1) r16)) = x_1.2.2.2.2 /\ (x_1.1 <= List.length (retL l) /\ Heap.get x_1.2.2.2.2 x_1.2.2.1 = IObj.cells (List.flatMap cIns x_1.2.1) /\ Prod.fst
 x_1.2.2 < Heap.next x_1.2.2.2.2 /\ fixedL (retL l) x_1.2.1 x_1.1) /\ List.length (retL l) - x_1.1 < List.length (retL l) - x.1)))))))) (needS (decide (0 <= (↑x.1 : Int)) && decide ((↑(Prod.fst
 x) : Int) < (↑(z11b l) : Int))) (hgetS x.2.2.2.2 x.2.2.1 fun r22 => ldIS .i64 r22 ((0 : Nat) + Int.toNat (↑x.1 : Int) * 5 + (0 : Nat)) fun n23 => brS (n23 == 6) (needS (decide ((0 : Int)
 <= (↑x.1 : Int)) && decide ((↑x.1 : Int) < (↑(z11b l) : Int))) (hgetS x.2.2.2.2 x.2.2.1 fun r24 => ldIS .i64 r24 ((0 : Nat) + Int.toNat (↑x.1 : Int) * 5 + (4 : Nat)) fun n25 =>
 needS (decide (0 <= (↑x.1 : Int)) && decide ((↑x.1 : Int) < (↑(z11b l) : Int))) (hgetS x.2.2.2.2 x.2.2.1 fun r26 => needS (Nat.ble ((0 : Nat) + Int.toNat (↑x.1 : Int) * 5 + (1 : Nat) +
 (1 : Nat)) r26.length) (∃ (x_1 : Nat × List In × Nat × Nat × Heap), some z11d = some z11d /\ some (TV.v (.hslice x.2.2.1 0 (z11b l) 5)) = some (TV.v (.hslice x_1.2.2.1 0 (z11b l) 5)) /\ some (TV.v (.vslice
 (some x.2.2.2.1) (z11b l) (z11b l) (1 : Nat) (z11c l))) = some (TV.v (.vslice (some x_1.2.2.2.1) (z11b l) (z11b l) 1 (z11c l))) /\ some (TV.v (.int .i64 (IntKind.wrap .i64 ((↑x.1 : Int) + 1))))
 = some (TV.v (.int .i64 (↑x_1.1 : Int))) /\ some z11a = some z11a /\ Heap.set x.2.2.2.2 x.2.2.1 (IObj.cells (List.take ((0 : Nat) + Int.toNat (↑x.1 : Int) * 5 + (1 : Nat)) r26 ++ [IV.int .i64 (IntKind.wrap
 .i64 ((2 : Int) - n25))] ++ List.drop ((0 : Nat) + Int.toNat (↑x.1 : Int) * 5 + (1 : Nat) + 1) r26)) = x_1.2.2.2.2 /\ (x_1.1 <= List.length (retL l) /\ Heap.get x_1.2.2.2.2 (Prod.fst (Prod.snd (Prod.snd
 x_1))) = IObj.cells (List.flatMap cIns x_1.2.1) /\ x_1.2.2.1 < Heap.next x_1.2.2.2.2 /\ fixedL (retL l) x_1.2.1 x_1.1) /\ List.length (retL l) - x_1.1 < List.length (retL l) - x.1))))
 (∃ (x_1 : Nat × List In × Nat × Nat × Heap), some z11d = some z11d /\ some (TV.v (.hslice x.2.2.1 0 (z11b l) 5)) = some (TV.v (.hslice x_1.2.2.1 0 (z11b l) 5)) /\ some (TV.v (.vslice (some (Prod.fst (Prod.snd (Prod.snd
 x.2)))) (z11b l) (z11b l) 1 (z11c l))) = some (TV.v (.vslice (some x_1.2.2.2.1) (z11b l) (z11b l) 1 (z11c l))) /\ some (TV.v (.int .i64 (IntKind.wrap .i64 ((↑x.1 : Int) + 1)))) = some (TV.v (.int .i64
 (↑x_1.1 : Int))) /\ some z11a = some z11a /\ x.2.2.2.2 = x_1.2.2.2.2 /\ (x_1.1 <= List.length (retL l) /\ Heap.get x_1.2.2.2.2 x_1.2.2.1 = IObj.cells (List.flatMap
 cIns x_1.2.1) /\ x_1.2.2.1 < Heap.next x_1.2.2.2.2 /\ fixedL (retL l) x_1.2.1 x_1.1) /\ List.length (retL l) - x_1.1 < List.length (retL l) - x.1))))) (∃ (x_1 : List In × Nat × Nat × Heap),
 some z11d = some z11d /\ some (TV.v (.hslice x.2.2.1 0 (z11b l) 5)) = some (TV.v (.hslice x_1.2.1 0 (z11b l) 5)) /\ some (TV.v (.vslice (some x.2.2.2.1) (z11b l) (z11b l) 1 (z11c
 l))) = some (TV.v (.vslice (some x_1.2.2.1) (z11b l) (z11b l) 1 (z11c l))) /\ some z11a = some z11a /\ x.2.2.2.2 = x_1.2.2.2 /\ (Heap.get x_1.2.2.2 x_1.2.1 = IObj.cells
 (List.flatMap cIns x_1.1) /\ x_1.2.1 < Heap.next x_1.2.2.2 /\ fixedL (retL l) x_1.1 (z11b l)) /\ True)) /\ (∀ (x : List In × Nat × Nat × Heap) (b : FF), Heap.get x.2.2.2 x.2.1 = IObj.cells (List.flatMap
 cIns x.1) /\ x.2.1 < Heap.next x.2.2.2 /\ fixedL (retL l) x.1 (z11b l) -> ∃ (l_1 : List In), List.length (retL l) = l_1.length /\ Heap.get x.2.2.2 x.2.1 = IObj.cells (List.flatMap cIns l_1) /\ Prod.fst
 x.2 < Heap.next x.2.2.2 /\ (∀ (i : In), i ∈ l_1 -> okIn i = true) /\ l_1 ≠ [] /\ l_1.length <= 1000 /\ ∀ (e : Nat) (h' : Heap), needS (decide (0 <= IntKind.wrap .i64 (Int.tdiv (↑(z11b l) : Int) (2 : Int))) && decide (IntKind.wrap .i64 (Int.tdiv
 (↑(z11b l) : Int) (2 : Int)) < (↑(z11b l) : Int))) (ldIS .i64 (z11c l) (Int.toNat (IntKind.wrap .i64 (Int.tdiv (↑(z11b l) : Int) (2 : Int))) * 1) fun n27 => needS (pureL [IV.agg [.vslice none 0 (List.length (List.flatMap encW l_1)) 1 (List.map (IV.int .u32)
 (List.flatMap encW l_1)), IV.vslice none 0 2 1 [IV.int .i64 0, IV.int .i64 n27], IV.vslice none 0 2 1 z11m, IV.vslice none 0 2 1 z11n, IV.vslice none 0 2 1 z11o]]) (Q (.agg [.vslice
 none (0 : Nat) (List.length (List.flatMap encW l_1)) 1 (List.map (IV.int .u32) (List.flatMap encW l_1)), IV.vslice none 0 2 1 [IV.int .i64 0, IV.int .i64 n27], IV.vslice none 0 2 1 z11m, IV.vslice none 0 (2 :
 Nat) 1 z11n, IV.vslice none 0 2 1 z11o]) h))) /\ True)) := by kernel_rfl
set_option maxHeartbeats 8000000 in
set_option maxRecDepth 100000 in
theorem sBinary : ∀ xs h Q, kBinary xs h Q -> CallW env 11 xs h Q := by
 intro xs h Q hk
 unfold kBinary at hk
 split at hk
 ·rename_i e1 n1 c1
  obtain ⟨l, ⟨rfl, rfl⟩, hb, hk⟩ := hk
  refine dF_run (okMutB) (vBinary l e1 h Q) ?_
  delta z11a z11b z11c z11d z11e z11f z11g z11h z11i z11j z11k z11l z11m z11n z11o
  obtain ⟨hl, hi⟩ := hb
  have tn : ∀ x : Nat, (x : Int).toNat = x := Int.toNat_natCast
  have hLl := retL_len l
  have hok := retL_ok hi
  have hne : retL l ≠ [] := fun z => by rw [z] at hLl; simp at hLl
  have hP : (places 0 (retL l)).length = (retL l).length := places_len _ _
  have hPk : ∀ k (h : k < (places 0 (retL l)).length), (places 0 (retL l))[k] = ((encT (retL l) k).length : Int) := fun k h => by rw [places_at h]; omega
  have htk : ∀ k (h : k < (retL l).length), (places 0 (retL l)).take (k + 1) = (places 0 (retL l)).take k ++ [((encT (retL l) k).length : Int)] := fun k h => by rw [List.take_succ_eq_append_getElem (by rw [hP]; exact h), hPk]
  have hwd : ∀ k (h : k < (retL l).length), IntKind.i64.wrap (((encT (retL l) k).length : Int) + (rowOf (retL l)[k].op).wd) = ((encT (retL l) (k + 1)).length : Int) := fun k h => by
   have hv : validI (retL l)[k].op (retL l)[k].a (retL l)[k].b (retL l)[k].c (retL l)[k].n = true := (hok _ (List.getElem_mem h)).1
   rw [row_wd (ok_fields hv).1, encT_succ h, List.length_append, encW_wlen, IntWalk.i64_in _ (by
    have h1 := encT_le (retL l) k
    have h2 : wlen (retL l)[k].op <= 3 := by unfold wlen; split <;> omega
    omega)]
   omega
  refine needS_intro (by simp only [pureL, pureB, pureL_ints, Bool.and_true]) ⟨⟨l, ⟨rfl, rfl⟩, ⟨hl, by omega⟩, fun hn => ?_, fun hn g h' hg hgn => ?_⟩, ?_, ?_, ?_, trivial⟩
  ·have e : retL l = [⟨2, 0, 0, 0, 0⟩] := by unfold retL; rw [hn]; rfl
   refine ⟨(0, ⟨.node .nil (some (.cells (cIns ⟨2, 0, 0, 0, 0⟩))) .nil, 1⟩), (by first | rfl | trivial), ?_, (by first | rfl | trivial), (by first | rfl | trivial), ⟨?_, Nat.zero_lt_one⟩, trivial⟩
   ·rw [e]; rfl
   ·rw [e]; rfl
  ·have hl5 := flatMap_l5 (insK l 24)
   refine hget_i hg (needS_intro (by simp [hl5]; have := insK_le l; omega) ⟨(h'.next, (h'.set g .dead).push (.cells ((insK l 24).flatMap cIns ++ cIns ⟨2, 0, 0, 0, 0⟩))), (by first | rfl | trivial), ?_, (by first | rfl | trivial), ?_, ⟨?_, ?_⟩, trivial⟩)
   ·simp only; unfold retL; rw [List.length_append]; rfl
   ·rw [List.take_of_length_le (by rw [hl5]; exact Nat.le_refl _)]; rfl
   ·simp only [get_push, next_set, if_pos trivial]; unfold retL; rw [List.flatMap_append]; simp
   ·simp only [next_push, next_set]; omega
  ·intro x _ hx
   obtain ⟨g, hp⟩ := x
   obtain ⟨hg, hgn⟩ := hx
   refine ⟨.inl ⟨(g, hp), (by first | rfl | trivial), (by first | rfl | trivial), (by first | rfl | trivial), (by first | rfl | trivial), (by first | rfl | trivial), (by first | rfl | trivial), (by first | rfl | trivial), ⟨hg, hgn⟩, trivial⟩, fun x _ hx => ?_, fun x _ hx => ?_⟩
   ·obtain ⟨g, hp⟩ := x
    obtain ⟨hg, hgn⟩ := hx
    simp only at hg hgn ⊢
    refine brS_intro (fun c1 => needS_intro (by simpa using c1) (hget_i hg (ldF (i := 0) (j := 0) (by omega) (by omega) rfl rfl (.inr ⟨(1, g, hp.next, hp.push (.tip 1)), (by first | rfl | trivial), (by first | rfl | trivial), ?_, ?_, (by first | rfl | trivial), (by first | rfl | trivial), (by first | rfl | trivial), ⟨⟨by omega, by simp only; omega⟩, ?_, ?_, ?_⟩, by simp only; omega⟩)))) (fun c1 => ?_)
    ·simp only; rw [htk 0 (by omega)]; rfl
    ·have := hwd 0 (by omega)
     simp only
     rw [<- this]
     rfl
    ·simp only [get_push, if_neg (show ¬ g = hp.next by omega)]; exact hg
    ·simp only [next_push]; omega
    ·simp only [get_push, if_pos trivial]
    ·rw [decide_eq_false_iff_not] at c1; omega
   ·obtain ⟨k, g, g2, hp⟩ := x
    obtain ⟨⟨h1, h2⟩, hg, hgn, ht⟩ := hx
    simp only at h1 h2 hg hgn ht ⊢
    have hgg : ¬ g = g2 := fun z => by rw [z, ht] at hg; cases hg
    simp only [tn, Nat.zero_add, Nat.add_zero]
    refine brS_intro (fun c1 => ?_) (fun c1 => ?_)
    ·rw [decide_eq_true_eq] at c1
     have hk : k < (retL l).length := by omega
     refine needS_intro (by simp; omega) (hget_i hg (ldF (i := k) (j := 0) hk (by omega) rfl (by omega) (tip_i ht (needS_intro (by simp [nbeq_t]; omega) (.inr ⟨(k + 1, g, g2, hp.set g2 (.tip (k + 1))), (by first | rfl | trivial), (by first | rfl | trivial), ?_, ?_, ?_, (by first | rfl | trivial), (by first | rfl | trivial), ⟨⟨by omega, hk⟩, ?_, hgn, ?_⟩, by simp only; omega⟩)))))
     ·simp only; rw [htk k hk, List.map_append]; rfl
     ·simp only; rw [hwd k hk]
     ·rw [IntWalk.i64_in _ (by omega)]; rfl
     ·simp only [get_set, if_neg hgg]; exact hg
     ·simp only [get_set, if_pos trivial]
    ·rw [decide_eq_false_iff_not] at c1
     have hk : k = (retL l).length := by omega
     refine ⟨(g, g2, hp), (by first | rfl | trivial), (by first | rfl | trivial), ?_, (by first | rfl | trivial), (by first | rfl | trivial), ⟨hg, hgn⟩, trivial⟩
     simp only [hk]
     rw [List.take_of_length_le (by omega)]
  ·intro x _ hx
   obtain ⟨g, g2, hp⟩ := x
   obtain ⟨hg, hgn⟩ := hx
   refine ⟨⟨(0, retL l, g, g2, hp), (by first | rfl | trivial), (by first | rfl | trivial), (by first | rfl | trivial), (by first | rfl | trivial), (by first | rfl | trivial), (by first | rfl | trivial), ⟨Nat.zero_le _, hg, hgn, ⟨rfl, hok, fun j _ _ hj => absurd hj (Nat.not_lt_zero _)⟩⟩, trivial⟩, fun x _ hx => ?_⟩
   obtain ⟨k, m, g, g2, hp⟩ := x
   obtain ⟨hkl, hg, hgn, hf⟩ := hx
   simp only at hkl hg hgn hf ⊢
   have hml : m.length = (retL l).length := by have := congrArg List.length hf.1; simpa using this
   simp only [tn, Nat.zero_add, Nat.add_zero, Nat.mul_one]
   refine brS_intro (fun c => ?_) (fun c => ?_)
   ·rw [decide_eq_true_eq] at c
    have hk : k < m.length := by omega
    have hkP : k < (places 0 (retL l)).length := by omega
    have nk : ∀ {A : Prop}, A -> needS (decide (0 <= (k : Int)) && decide ((k : Int) < ((retL l).length : Int))) A := fun hA => needS_intro (by simp; omega) hA
    have hin := hf.2.1 _ (List.getElem_mem hk)
    have hv : validI m[k].op m[k].a m[k].b m[k].c m[k].n = true := hin.1
    have hof := (ok_fields hv).1
    have hcf : (cfl m[k].op m[k].a m[k].b m[k].c m[k].n).2 = decide (m[k].op = 5 \/ m[k].op = 7 \/ m[k].op = 8) := by unfold cfl; rw [if_pos hv]
    have hw1 : IntKind.i64.wrap ((k : Int) + 1) = ((k + 1 : Nat) : Int) := IntWalk.i64_in _ (by omega)
    have hl5 := flatMap_l5 m
    have hS4 : ∀ v : Int, (m.flatMap cIns).take (k * 5 + 4) ++ [IV.int .i64 v] ++ (m.flatMap cIns).drop (k * 5 + 4 + 1) = (m.set k ⟨m[k].op, m[k].a, m[k].b, m[k].c, v⟩).flatMap cIns := fun v => cells_store hk (by omega) rfl
    have hS1 : ∀ v : Int, (m.flatMap cIns).take (k * 5 + 1) ++ [IV.int .i64 v] ++ (m.flatMap cIns).drop (k * 5 + 1 + 1) = (m.set k ⟨m[k].op, v, m[k].b, m[k].c, m[k].n⟩).flatMap cIns := fun v => cells_store hk (by omega) rfl
    rw [hw1]
    refine nk (hget_i hg (ldIn (i := k) hk rfl (brS_intro (fun cJ => ?_) (fun cJ => ?_))))
    ·rw [hcf, decide_eq_true_eq] at cJ
     refine nk (hget_i hg (ldF (i := k) (j := 4) hk (by omega) rfl rfl ⟨⟨by omega, by omega⟩, ?_⟩))
     have q0 : 0 <= IntKind.i64.wrap ((k : Int) + m[k].n) % ((retL l).length : Int) := Int.emod_nonneg _ (by omega)
     have q1 : IntKind.i64.wrap ((k : Int) + m[k].n) % ((retL l).length : Int) < ((retL l).length : Int) := Int.emod_lt_of_pos _ (by omega)
     generalize IntKind.i64.wrap ((k : Int) + m[k].n) % ((retL l).length : Int) = q at q0 q1 ⊢
     have hq : q.toNat < (places 0 (retL l)).length := by omega
     have hb1 : (places 0 (retL l))[q.toNat] = ((encT (retL l) q.toNat).length : Int) := hPk _ hq
     have hb2 : (places 0 (retL l))[k] = ((encT (retL l) k).length : Int) := hPk _ hkP
     have hb3 := encT_le (retL l) q.toNat
     have hb4 := encT_le (retL l) k
     have hwn : IntKind.i64.wrap ((places 0 (retL l))[q.toNat] - (places 0 (retL l))[k]) = (places 0 (retL l))[q.toNat] - (places 0 (retL l))[k] := IntWalk.i64_in _ (by omega)
     refine needS_intro (by simp; omega) (ldIS_map hq (nk (ldIS_map hkP (nk (hget_i hg (needS_intro (by rw [Nat.ble_eq, hl5]; omega) (nk ?_)))))))
     rw [hwn, hS4]
     have hmem : (places 0 (retL l))[q.toNat] ∈ places 0 (retL l) := List.getElem_mem hq
     have hjok : jok (places 0 (retL l)) ⟨m[k].op, m[k].a, m[k].b, m[k].c, (places 0 (retL l))[q.toNat] - (places 0 (retL l))[k]⟩ (places 0 (retL l))[k] := by
      refine ⟨fun _ => ?_, fun z => by simp only at z; omega, fun z => by simp only at z; omega⟩
      simp only
      rw [show (places 0 (retL l))[k] + ((places 0 (retL l))[q.toNat] - (places 0 (retL l))[k]) = (places 0 (retL l))[q.toNat] by omega, IntWalk.i64_in _ (by omega)]
      exact hmem
     have hok2 : okIn ⟨m[k].op, m[k].a, m[k].b, m[k].c, (places 0 (retL l))[q.toNat] - (places 0 (retL l))[k]⟩ = true := valid_jump hv cJ (by simp only; omega)
     generalize (places 0 (retL l))[q.toNat] - (places 0 (retL l))[k] = n' at *
     have hf2 := fixed_step hf hk hkP (i' := ⟨m[k].op, m[k].a, m[k].b, m[k].c, n'⟩) rfl ⟨hok2, fun z => by simp only at z; omega, fun z => by simp only at z; omega⟩ hjok
     have hset : (m.set k ⟨m[k].op, m[k].a, m[k].b, m[k].c, n'⟩)[k]'(by simpa using hk) = ⟨m[k].op, m[k].a, m[k].b, m[k].c, n'⟩ := List.getElem_set_self _
     refine hget_i (by rw [get_set, if_pos rfl]) (ldF (i := k) (j := 0) (v := m[k].op) (by simpa using hk) (by omega) (by rw [hset]; rfl) (by omega) (brS_intro (fun z => ?_) (fun _ => ?_)))
     ·rw [beq_iff_eq] at z; omega
     ·exact ⟨(k + 1, m.set k ⟨m[k].op, m[k].a, m[k].b, m[k].c, n'⟩, g, g2, hp.set g (.cells ((m.set k ⟨m[k].op, m[k].a, m[k].b, m[k].c, n'⟩).flatMap cIns))), (by first | rfl | trivial), (by first | rfl | trivial), (by first | rfl | trivial), (by first | rfl | trivial), (by first | rfl | trivial), (by first | rfl | trivial), ⟨by simp only; omega, by simp only [get_set, if_pos trivial], hgn, hf2⟩, by simp only; omega⟩
    ·rw [hcf, decide_eq_false_iff_not] at cJ
     refine nk (hget_i hg (ldF (i := k) (j := 0) hk (by omega) rfl (by omega) (brS_intro (fun z => ?_) (fun z => ?_))))
     ·rw [beq_iff_eq] at z
      have hrn := hin.2.1 z
      have hwn : IntKind.i64.wrap (2 - m[k].n) = 2 - m[k].n := IntWalk.i64_in _ (by omega)
      refine nk (hget_i hg (ldF (i := k) (j := 4) hk (by omega) rfl rfl (nk (hget_i hg (needS_intro (by rw [Nat.ble_eq, hl5]; omega) ?_)))))
      rw [hwn, hS1]
      have hok2 : okIn ⟨m[k].op, 2 - m[k].n, m[k].b, m[k].c, m[k].n⟩ = true := by
       have hv6 := hv
       rw [z] at hv6
       rw [z]
       exact valid_call hv6 (by simp only; omega)
      have hjok : jok (places 0 (retL l)) ⟨m[k].op, 2 - m[k].n, m[k].b, m[k].c, m[k].n⟩ (places 0 (retL l))[k] := by
       refine ⟨fun z => by simp only at z; omega, fun _ => ⟨by simp only; omega, ?_⟩, fun z => by simp only at z; omega⟩
       simp only
       have : m[k].n = 0 \/ m[k].n = 1 := by omega
       rcases this with e | e <;> rw [e] <;> rfl
      have hf2 := fixed_step hf hk hkP (i' := ⟨m[k].op, 2 - m[k].n, m[k].b, m[k].c, m[k].n⟩) rfl ⟨hok2, fun z => hin.2.1 z, fun z => hin.2.2 z⟩ hjok
      exact ⟨(k + 1, m.set k ⟨m[k].op, 2 - m[k].n, m[k].b, m[k].c, m[k].n⟩, g, g2, hp.set g (.cells ((m.set k ⟨m[k].op, 2 - m[k].n, m[k].b, m[k].c, m[k].n⟩).flatMap cIns))), (by first | rfl | trivial), (by first | rfl | trivial), (by first | rfl | trivial), (by first | rfl | trivial), (by first | rfl | trivial), (by first | rfl | trivial), ⟨by simp only; omega, by simp only [get_set, if_pos trivial], hgn, hf2⟩, by simp only; omega⟩
     ·rw [beq_eq_false_iff_ne] at z
      have hf2 := fixed_same hf hk (fun _ => ⟨fun y => absurd y cJ, fun y => absurd y z, fun y => by have := hin.2.2 y; omega⟩)
      exact ⟨(k + 1, m, g, g2, hp), (by first | rfl | trivial), (by first | rfl | trivial), (by first | rfl | trivial), (by first | rfl | trivial), (by first | rfl | trivial), (by first | rfl | trivial), ⟨by simp only; omega, hg, hgn, hf2⟩, by simp only; omega⟩
   ·rw [decide_eq_false_iff_not] at c
    have hk : k = (retL l).length := by omega
    subst hk
    exact ⟨(m, g, g2, hp), (by first | rfl | trivial), (by first | rfl | trivial), (by first | rfl | trivial), (by first | rfl | trivial), (by first | rfl | trivial), ⟨hg, hgn, hf⟩, trivial⟩
  ·intro x _ hx
   obtain ⟨m, g, g2, hp⟩ := x
   obtain ⟨hg, hgn, hf⟩ := hx
   simp only at hg hgn hf ⊢
   have hml : m.length = (retL l).length := by have := congrArg List.length hf.1; simpa using this
   have hdiv : Int.tdiv ((retL l).length : Int) 2 = (((retL l).length / 2 : Nat) : Int) := rfl
   have hwr : IntKind.i64.wrap (((retL l).length / 2 : Nat) : Int) = (((retL l).length / 2 : Nat) : Int) := IntWalk.i64_in _ (by omega)
   have hq : (retL l).length / 2 < (places 0 (retL l)).length := by omega
   refine ⟨m, hml.symm, hg, hgn, fun i hi => (hf.2.1 i hi).1, fun z => hne (List.eq_nil_of_length_eq_zero (by rw [<- hml, z]; rfl)), by omega, fun e h' => ?_⟩
   rw [hdiv, hwr, tn, Nat.mul_one]
   refine needS_intro (by simp; omega) (ldIS_map hq (needS_intro (by simp only [pureL, pureB, pureL_ints, Bool.and_true]) ?_))
   have hbl : (m.flatMap encW).length <= 1000 := by
    have := encT_le m m.length
    unfold encT at this
    rw [List.take_length] at this
    omega
   refine hk (m.flatMap encW) _ (fixed_vb hf (by omega) hne (fun i hi => ?_) (List.getElem_mem hq)) (fun x hx => ?_) hbl
   ·have : (retL l).getLast? = some ⟨2, 0, 0, 0, 0⟩ := by unfold retL; simp
    rw [this] at hi
    cases hi
    rfl
   ·obtain ⟨i, hi, hx⟩ := List.mem_flatMap.1 hx
    exact encW_b (hf.2.1 i hi).1 x hx
 ·exact hk.elim
def cBinary := addC 11 kBinary cMutB
theorem okBinary : Sound env cBinary := sound_add sBinary (okMutB)
end Go.Proofs.YtlenjfbmpekabaaDoor
