import Derived.Test.YtgfllfgdojiioaaGreatI14s
import Derived.Test.YtgfllfgdojiioaaGreatP14
import Derived.KernelRfl
set_option linter.unusedVariables false
set_option linter.unusedSimpArgs false
namespace Go.Proofs.YtgfllfgdojiioaaGreat
open Go.Pv Go.M13 Go.M15 Go.M10 Go.M14
def anInv (l : List Nd) (i e0 id : Nat) (k0 : List Int) (h : Heap) : Inv' := .or
 (atX Nat (fun x => [(0, .v (.vslice none e0 (l).length 3 ((l).flatMap cN))), (1, .v (.hslice id 0 k0.length 1)), (2, .v (.int .i64 (i : Int))), (16, .v (.vslice none 0 ((l.getD i default).ks).length 1 (((l.getD i default).ks).map (IV.int .i64)))), (17, .v (.int .i64 (l.getD i default).ks.length)), (18, .v (.int .i64 0)), (7, .v .nilslice), (8, .v .nilslice)]) (fun _ => []) (fun _ => h) (fun x => x = 0 /\ True) (fun x => (l.getD i default).ks.length))
 (atX (Nat × Heap × Nat × Nat) (fun x => [(0, .v (.vslice none e0 (l).length 3 ((l).flatMap cN))), (1, .v (.hslice id 0 k0.length 1)), (2, .v (.int .i64 (i : Int))), (16, .v (.vslice none 0 ((l.getD i default).ks).length 1 (((l.getD i default).ks).map (IV.int .i64)))), (17, .v (.int .i64 (l.getD i default).ks.length)), (18, .v (.int .i64 (x.1 : Int))), (7, .v (.vslice (some x.2.2.1) (x.1 * 3) x.1 3 (((kS l i x.1).map fw).flatMap cN))), (8, .v (.vslice (some x.2.2.2) x.1 x.1 1 ((rg x.1).map (IV.int .i64))))]) (fun _ => []) (fun x => x.2.1) (fun x => NSt h id l i x.1 x.2.1 x.2.2.1 x.2.2.2 /\ True) (fun x => (l.getD i default).ks.length - x.1))
def kANode (xs : List IV) (h : Heap) (K : IV -> Heap -> Prop) : Prop := match xs with
 | [.vslice none e0 n0 3 c0, .hslice id 0 n2 1, .int .i64 q] => ∃ (l : List Nd) (i : Nat) (k0 : List Int), (n0 = l.length /\ c0 = l.flatMap cN /\ q = (i : Int) /\ n2 = k0.length) /\ (WG l /\ NP h id l i k0) /\ ∀ h2 : Heap, h2.get id = h.get id /\ h.next <= h2.next -> K (.int .i64 ((sortsA l).getD i 0)) h2
 | _ => False
noncomputable def z31f (l : List Nd) (i : Nat) := Nd.ks (List.getD l i default)
noncomputable def z31m  := IV.int .i64
noncomputable def z31a (l : List Nd) (i : Nat) := TV.v (.vslice none 0 (List.length (z31f l i)) 1 (List.map z31m (z31f l i)))
noncomputable def z31b (l : List Nd) (i : Nat) := TV.v (.int .i64 (↑(List.length (z31f l i)) : Int))
noncomputable def z31c (l : List Nd) (e0 : Nat) := TV.v (.vslice none e0 l.length 3 (List.flatMap cN l))
noncomputable def z31d (id : Nat) (k0 : List Int) := TV.v (.hslice id 0 k0.length 1)
noncomputable def z31e (i : Nat) := TV.v (.int .i64 (↑i : Int))
noncomputable def z31g  := [IV.int .i64 26, IV.int .i64 0, IV.vslice none 0 0 1 []]
noncomputable def z31h  := [IV.int .i64 1, IV.int .i64 0, IV.vslice none 0 0 1 []]
noncomputable def z31i (h : Heap) := TV.v (.vslice (some (Heap.next h + 1)) 1 1 1 [IV.int .i64 0])
noncomputable def z31j (l : List Nd) (i : Nat) := decide (0 <= (↑i : Int)) && decide ((↑i : Int) < (↑l.length : Int))
noncomputable def z31k  := TV.v (.int .i64 0)
noncomputable def z31l  := TV.v IV.nilslice
noncomputable def z31n  := TV.v (.int .i64 1)
noncomputable def z31o (h : Heap) := Heap.push h (IObj.tip (3 : Nat))
noncomputable def z31p (h : Heap) := TV.v (.vslice (some (Heap.next h)) 3 1 3 z31h)
noncomputable def z31q (h : Heap) := TV.v (.vslice (some (Heap.next h)) 3 1 3 z31g)
set_option maxRecDepth 100000 in
theorem vANode (l : List Nd) (i : Nat) (e0 id : Nat) (k0 : List Int) (h : Heap) (Q : IV -> Heap -> Prop) : dF (stdS cBin) env 31 noU (ic1 5 (anInv l i e0 id k0 h)) noI [.vslice none e0 (l).length 3 ((l).flatMap cN), .hslice id 0 k0.length 1, .int .i64 (i : Int)] h Q = (
 needS (z31j l i) (ldVS 1 (List.flatMap cN l) (Int.toNat (↑i : Int) * 3 + (2 : Nat)) fun (i0 : Option Nat) (e1 l2 : Nat) (c3 : List IV) => ((∃ (x : Nat), some (z31c l e0) = some (z31c l e0) /\ some (z31d id k0) = some (z31d id k0) /\ some (z31e i) = some (z31e i) /\ some (TV.v (.vslice
 i0 e1 l2 (1 : Nat) c3)) = some (z31a l i) /\ some (TV.v (.int .i64 (↑l2 : Int))) = some (z31b l i) /\ some z31k = some z31k /\ some z31l = some z31l /\ some z31l = some z31l /\ h = h /\ (x = 0 /\ True) /\ True) \/ ∃ (x : Nat × Heap × Nat × Nat), some (z31c l e0) = some (z31c l e0) /\ some (z31d
 id k0) = some (z31d id k0) /\ some (z31e i) = some (z31e i) /\ some (TV.v (.vslice i0 e1 l2 1 c3)) = some (z31a l i) /\ some (TV.v (.int .i64 (↑l2 : Int))) = some (z31b l i) /\ some z31k = some (TV.v (.int .i64 (↑x.1 : Int))) /\ some z31l = some (TV.v (.vslice (some
 x.2.2.1) (x.1 * 3) x.1 3 (List.flatMap cN (List.map fw (kS l i x.1))))) /\ some z31l = some (TV.v (.vslice (some x.2.2.2) x.1 x.1 1 (List.map z31m (rg x.1)))) /\ h = Prod.fst
 x.2 /\ (NSt h id l i x.1 x.2.1 x.2.2.1 x.2.2.2 /\ True) /\ True) /\ (∀ (x : Nat) (b : FF), x = 0 /\ True -> brS (decide (0 < (↑(List.length (z31f l i)) : Int))) (needS (true && decide (0 < (↑(List.length
 (z31f l i)) : Int))) (ldIS .i64 (List.map z31m (z31f l i)) 0 fun n4 => needS (decide (0 <= n4) && decide (n4 < (↑k0.length : Int))) (hgetS h id fun r5 => ldIS .i64 r5 ((0 : Nat) + n4.toNat * 1) fun n6 => brS (n6 == 1)
 ((∃ (x : Nat), some (z31c l e0) = some (z31c l e0) /\ some (z31d id k0) = some (z31d id k0) /\ some (z31e i) = some (z31e i) /\ some (z31a l i) = some (z31a l i) /\ some (z31b l i) = some (z31b l i) /\ some z31n = some z31k /\ some (z31p h) = some z31l /\ some (z31i h) = some z31l /\ Heap.push (z31o h) (IObj.tip
 (1 : Nat)) = h /\ (x = 0 /\ True) /\ List.length (z31f l i) < List.length (z31f l i)) \/ ∃ (x : Nat × Heap × Nat × Nat), some (z31c l e0) = some (z31c l e0) /\ some (z31d id k0) = some (z31d id k0) /\ some (z31e i) = some (z31e i) /\ some (z31a l i) = some (z31a l i) /\ some (z31b l i) = some (z31b l
 i) /\ some z31n = some (TV.v (.int .i64 (↑x.1 : Int))) /\ some (z31p h) = some (TV.v (.vslice (some x.2.2.1) (x.1 * 3) x.1 3 (List.flatMap cN (List.map fw (kS l i x.1))))) /\ some (z31i h) = some (TV.v (.vslice (some
 x.2.2.2) x.1 x.1 1 (List.map z31m (rg x.1)))) /\ Heap.push (z31o h) (IObj.tip (1 : Nat)) = x.2.1 /\ (NSt h id l i x.1 x.2.1 x.2.2.1 x.2.2.2 /\ True)
 /\ List.length (z31f l i) - x.1 < List.length (z31f l i)) (brS (n6 == 2) ((∃ (x : Nat), some (z31c l e0) = some (z31c l e0) /\ some (z31d id k0) = some (z31d id k0) /\ some (z31e i) = some (z31e i) /\ some (z31a l i) = some (z31a l i) /\ some (z31b l i) = some (z31b l i) /\ some z31n = some
 z31k /\ some (z31q h) = some z31l /\ some (z31i h) = some z31l /\ Heap.push (z31o h) (IObj.tip (1 : Nat)) = h /\ (x = 0 /\ True) /\ List.length (z31f l i) < List.length (z31f l i)) \/ ∃ (x : Nat × Heap × Nat × Nat), some (z31c l e0) = some (z31c l e0) /\ some (z31d id k0) = some (z31d id k0) /\ some (z31e
 i) = some (z31e i) /\ some (z31a l i) = some (z31a l i) /\ some (z31b l i) = some (z31b l i) /\ some z31n = some (TV.v (.int .i64 (↑x.1 : Int))) /\ some (z31q h) = some (TV.v (.vslice (some x.2.2.1) (x.1 * 3) x.1 3 (List.flatMap
 cN (List.map fw (kS l i x.1))))) /\ some (z31i h) = some (TV.v (.vslice (some x.2.2.2) x.1 x.1 1 (List.map z31m (rg x.1)))) /\ Heap.push (z31o h) (IObj.tip (1 : Nat)) = x.2.1 /\ (NSt h id l i x.1 (Prod.fst
 x.2) x.2.2.1 x.2.2.2 /\ True) /\ List.length (z31f l i) - x.1 < List.length (z31f l i)) (needS (decide (0 <= n4) && decide (n4 < (↑l.length : Int))) (ldVS 1 (List.flatMap cN l) (n4.toNat * 3 + (2 : Nat))
 fun (i7 : Option Nat) (e8 l9 : Nat) (c10 : List IV) => False)))))) (needS (z31j l i) (ldIS .i64 (List.flatMap cN l) (Int.toNat (↑i : Int) * 3 + (0 : Nat)) fun n11 => needS (z31j l i) (ldIS .i64 (List.flatMap cN l) (Int.toNat (↑i : Int) * 3 + (1 : Nat)) fun (n12 :
 Int) => ∃ (l : List Nd), ((1 : Nat) = l.length /\ [IV.int .i64 n11, IV.int .i64 n12, IV.vslice none 0 0 1 []] = List.flatMap cN l) /\ ((∀ (x : Nd), x ∈ l -> List.length (Nd.ks x) <= 1000000 /\ Nd.op x ≠ 25 /\ Nd.op x ≠ 30 /\ Nd.op x ≠ (31 :
 Int)) /\ l.length <= 1000000 /\ (0 : Int) <= 0 /\ 0 < (↑l.length : Int)) /\ Q (.int .i64 (List.getD (sortsA l) 0 0)) (z31o h))))) /\ ∀ (x : Nat × Heap × Nat × Nat) (b : FF), NSt h id l i x.1 x.2.1 (Prod.fst (Prod.snd (Prod.snd
 x))) x.2.2.2 /\ True -> brS (decide ((↑x.1 : Int) < (↑(List.length (z31f l i)) : Int))) (needS (decide (0 <= (↑x.1 : Int)) && decide ((↑x.1 : Int) < (↑(List.length (z31f l i)) : Int))) (ldIS .i64 (List.map z31m (z31f l i)) (Int.toNat (↑(Prod.fst
 x) : Int) * 1) fun n13 => needS (decide (0 <= n13) && decide (n13 < (↑k0.length : Int))) (hgetS x.2.1 id fun r14 => ldIS .i64 r14 ((0 : Nat) + n13.toNat * 1) fun n15 => brS (n15 == 1) (tipS (Prod.fst (Prod.snd
 x)) x.2.2.1 fun (m16 : Nat) => needS (Nat.beq m16 (x.1 * 3) && Nat.ble ((x.1 + 1) * 40) (140737488355328 : Nat)) (tipS (Heap.set x.2.1 x.2.2.1 (IObj.tip (x.1 * 3 + (3 : Nat))))
 x.2.2.2 fun (m17 : Nat) => needS (Nat.beq m17 x.1 && Nat.ble ((x.1 + 1) * 8) (140737488355328 : Nat)) ((∃ (x_1 : Nat), some (z31c l e0) = some (z31c l e0) /\ some (z31d id k0) = some (z31d id k0) /\ some (z31e i) = some (z31e i) /\ some (z31a l
 i) = some (z31a l i) /\ some (z31b l i) = some (z31b l i) /\ some (TV.v (.int .i64 (IntKind.wrap .i64 ((↑x.1 : Int) + 1)))) = some z31k /\ some (TV.v (.vslice (some x.2.2.1) (x.1 * 3 + (3 : Nat)) (x.1 + 1) 3
 (List.flatMap cN (List.map fw (kS l i x.1)) ++ z31h))) = some z31l /\ some (TV.v (.vslice (some x.2.2.2) (x.1 + 1) (x.1 + 1) 1 (List.map z31m (rg x.1) ++ [IV.int .i64 (↑x.1 : Int)]))) = some z31l /\ Heap.set
 (Heap.set x.2.1 x.2.2.1 (IObj.tip (x.1 * 3 + (3 : Nat)))) x.2.2.2 (IObj.tip (x.1 + 1)) = h /\ (x_1 = 0 /\ True) /\ List.length (z31f l i) < List.length (z31f l i) - x.1) \/ ∃ (x_1 : Nat ×
 Heap × Nat × Nat), some (z31c l e0) = some (z31c l e0) /\ some (z31d id k0) = some (z31d id k0) /\ some (z31e i) = some (z31e i) /\ some (z31a l i) = some (z31a l i) /\ some (z31b l i) = some (z31b l i) /\ some (TV.v (.int .i64 (IntKind.wrap .i64 ((↑x.1 : Int) + 1)))) = some
 (TV.v (.int .i64 (↑x_1.1 : Int))) /\ some (TV.v (.vslice (some x.2.2.1) (x.1 * 3 + (3 : Nat)) (x.1 + 1) 3 (List.flatMap cN (List.map fw (kS l i x.1)) ++ z31h))) = some (TV.v (.vslice (some (Prod.fst (Prod.snd
 x_1.2))) (x_1.1 * 3) x_1.1 3 (List.flatMap cN (List.map fw (kS l i x_1.1))))) /\ some (TV.v (.vslice (some x.2.2.2) (x.1 + 1) (x.1 + 1) 1 (List.map z31m (rg x.1) ++ [IV.int .i64
 (↑x.1 : Int)]))) = some (TV.v (.vslice (some x_1.2.2.2) x_1.1 x_1.1 1 (List.map z31m (rg x_1.1)))) /\ Heap.set (Heap.set x.2.1 x.2.2.1 (IObj.tip (x.1 * 3 + (3 : Nat))))
 x.2.2.2 (IObj.tip (x.1 + 1)) = x_1.2.1 /\ (NSt h id l i x_1.1 x_1.2.1 x_1.2.2.1 x_1.2.2.2 /\ True) /\ List.length (z31f l i) - x_1.1 < List.length (z31f l i)
 - x.1))) (brS (n15 == 2) (tipS x.2.1 x.2.2.1 fun (m18 : Nat) => needS (Nat.beq m18 (x.1 * 3) && Nat.ble ((x.1 + 1) * 40) (140737488355328 : Nat)) (tipS (Heap.set x.2.1 (Prod.fst (Prod.snd
 x.2)) (IObj.tip (x.1 * 3 + (3 : Nat)))) x.2.2.2 fun (m19 : Nat) => needS (Nat.beq m19 x.1 && Nat.ble ((x.1 + 1) * 8) (140737488355328 : Nat)) ((∃ (x_1 : Nat), some (z31c l e0) = some (z31c l e0) /\ some (z31d id k0) = some
 (z31d id k0) /\ some (z31e i) = some (z31e i) /\ some (z31a l i) = some (z31a l i) /\ some (z31b l i) = some (z31b l i) /\ some (TV.v (.int .i64 (IntKind.wrap .i64 ((↑x.1 : Int) + 1)))) = some z31k /\ some (TV.v (.vslice (some x.2.2.1) (Prod.fst
 x * 3 + (3 : Nat)) (x.1 + 1) 3 (List.flatMap cN (List.map fw (kS l i x.1)) ++ z31g))) = some z31l /\ some (TV.v (.vslice (some x.2.2.2) (x.1 + 1) (x.1 + 1) 1 (List.map z31m (rg x.1) ++ [IV.int
 .i64 (↑x.1 : Int)]))) = some z31l /\ Heap.set (Heap.set x.2.1 x.2.2.1 (IObj.tip (x.1 * 3 + (3 : Nat)))) x.2.2.2 (IObj.tip (x.1 + 1)) = h /\ (x_1 = 0 /\ True) /\ List.length (z31f
 l i) < List.length (z31f l i) - x.1) \/ ∃ (x_1 : Nat × Heap × Nat × Nat), some (z31c l e0) = some (z31c l e0) /\ some (z31d id k0) = some (z31d id k0) /\ some (z31e i) = some (z31e i) /\ some (z31a l i) = some (z31a l i) /\ some (z31b l i) = some (z31b l i) /\ some (TV.v (.int .i64 (IntKind.wrap
 .i64 ((↑x.1 : Int) + 1)))) = some (TV.v (.int .i64 (↑x_1.1 : Int))) /\ some (TV.v (.vslice (some x.2.2.1) (x.1 * 3 + (3 : Nat)) (x.1 + 1) 3 (List.flatMap cN (List.map fw (kS l i x.1))
 ++ z31g))) = some (TV.v (.vslice (some x_1.2.2.1) (x_1.1 * 3) x_1.1 3 (List.flatMap cN (List.map fw (kS l i x_1.1))))) /\ some (TV.v (.vslice (some x.2.2.2) (x.1 + 1) (x.1 + 1)
 1 (List.map z31m (rg x.1) ++ [IV.int .i64 (↑x.1 : Int)]))) = some (TV.v (.vslice (some x_1.2.2.2) x_1.1 x_1.1 1 (List.map z31m (rg x_1.1)))) /\ Heap.set (Heap.set x.2.1 (Prod.fst (Prod.snd
 x.2)) (IObj.tip (x.1 * 3 + (3 : Nat)))) x.2.2.2 (IObj.tip (x.1 + 1)) = x_1.2.1 /\ (NSt h id l i x_1.1 x_1.2.1 x_1.2.2.1 x_1.2.2.2 /\ True) /\
 List.length (z31f l i) - x_1.1 < List.length (z31f l i) - x.1))) (needS (decide (0 <= n13) && decide (n13 < (↑l.length : Int))) (ldVS 1 (List.flatMap cN l) (n13.toNat * 3 + (2 : Nat)) fun (i20 : Option Nat) (e21 l22 : Nat) (c23 : List IV) => False))))))
 (needS (z31j l i) (ldIS .i64 (List.flatMap cN l) (Int.toNat (↑i : Int) * 3 + (0 : Nat)) fun n24 => needS (z31j l i) (ldIS .i64 (List.flatMap cN l) (Int.toNat (↑i : Int) * 3 + (1 : Nat)) fun n25 => tipS x.2.1 (Prod.fst (Prod.snd (Prod.snd
 x))) fun (m26 : Nat) => needS (Nat.beq m26 (x.1 * 3) && Nat.ble ((x.1 + 1) * 40) (140737488355328 : Nat)) (∃ (l_1 : List Nd), (x.1 + 1 = l_1.length /\ List.flatMap cN (List.map fw (kS l i x.1)) ++ [IV.int .i64 n24, IV.int .i64
 n25, IV.vslice none 0 x.1 1 (List.map z31m (rg x.1))] = List.flatMap cN l_1) /\ ((∀ (x : Nd), x ∈ l_1 -> List.length (Nd.ks x) <= 1000000 /\ Nd.op x ≠ 25 /\ Nd.op x ≠ 30 /\ Nd.op x ≠ 31) /\ l_1.length <= 1000000 /\ 0 <= IntKind.wrap
 .i64 ((↑(x.1 + 1) : Int) - 1) /\ IntKind.wrap .i64 ((↑(x.1 + 1) : Int) - 1) < (↑l_1.length : Int)) /\ Q (.int .i64 (List.getD (sortsA l_1) (Int.toNat (IntKind.wrap .i64 ((↑(x.1 + 1) : Int) - 1))) (0
 : Int))) (Heap.set x.2.1 x.2.2.1 (IObj.tip (x.1 * 3 + (3 : Nat)))))))))) := by kernel_rfl
set_option maxHeartbeats 2000000 in
theorem sANode : ∀ xs h Q, kANode xs h Q -> CallW env 31 xs h Q := by
 intro xs h Q hk
 unfold kANode at hk
 split at hk
 ·rename_i e0 n0 c0 id n2 q
  obtain ⟨l, i, k0, ⟨rfl, rfl, rfl, rfl⟩, hb, hk⟩ := hk
  refine dF_run (okBin) (vANode l i e0 id k0 h Q) ?_
  delta z31a z31b z31c z31d z31e z31f z31g z31h z31i z31j z31k z31l z31m z31n z31o z31p z31q
  have tn : ∀ x : Nat, (x : Int).toNat = x := Int.toNat_natCast
  obtain ⟨hw, hi, hg, hid, hkl, hkt⟩ := hb
  have eD : l.getD i default = l[i] := by rw [List.getD_eq_getElem?_getD, List.getElem?_eq_getElem hi]; rfl
  have hn := hw.ok _ (List.getElem_mem hi)
  have hbk := hw.back i _ (List.getElem?_eq_getElem hi)
  have hk0 : ∀ q, (hq : q < i) -> ∃ h2 : q < k0.length, k0[q] = (sortsA l).getD q 0 := fun q hq => by
   refine ⟨by omega, ?_⟩
   have e : (k0.take i)[q]? = ((sortsA l).take i)[q]? := by rw [hkt]
   rw [List.getElem?_take_of_lt hq, List.getElem?_take_of_lt hq, List.getElem?_eq_getElem (by omega)] at e
   rw [List.getD_eq_getElem?_getD, <- e]
   rfl
  have kid12 : ∀ q ∈ l[i].ks, (sortsA l).getD q.toNat 0 = 1 \/ (sortsA l).getD q.toNat 0 = 2 := fun q hq => by
   have := hbk q hq
   have hlt : q.toNat < (sortsA l).length := by rw [sortsA_len]; omega
   rw [List.getD_eq_getElem?_getD, List.getElem?_eq_getElem hlt]
   exact hw.s12 _ (List.getElem_mem hlt)
  have e0 := cN_at hi (j := 0) (by omega)
  have e1 := cN_at hi (j := 1) (by omega)
  have hsk := sort_ks hw hi
  simp only [eD]
  refine needS_intro (by simp; omega) (ldNk hi (by rw [tn]) ⟨.inl ⟨0, (by first | rfl | exact True.intro), (by first | rfl | exact True.intro), (by first | rfl | exact True.intro), (by first | rfl | exact True.intro), (by first | rfl | exact True.intro), (by first | rfl | exact True.intro), (by first | rfl | exact True.intro), (by first | rfl | exact True.intro), (by first | rfl | exact True.intro), ⟨rfl, trivial⟩, trivial⟩, ?_, ?_⟩)
  ·rintro x _ ⟨rfl, _⟩
   refine brS_intro (fun c => ?_) (fun c => ?_)
   ·rw [decide_eq_true_eq] at c
    have hlt : 0 < l[i].ks.length := by omega
    have hm := List.getElem_mem hlt
    have hq := hbk _ hm
    obtain ⟨q1, q2⟩ := hk0 (l[i].ks[0]).toNat (by omega)
    have hks := kS_succ hi hlt
    refine needS_intro (by simp; omega) (ldI1 hlt rfl (needS_intro (by simp; omega) (hget_intro hg (ldI1 q1 (by omega) ?_))))
    rw [q2]
    have st : NSt h id l i 1 ((h.push (.tip 3)).push (.tip 1)) h.next (h.next + 1) := by
     refine ⟨⟨Nat.one_pos, by rw [eD]; exact hlt⟩, ⟨by rw [get_push_lt (Nat.lt_succ_of_lt hid), get_push_lt hid], by show h.next <= h.next + 1 + 1; omega⟩, ⟨by rw [get_push_lt (show h.next < (h.push (.tip 3)).next from Nat.lt_succ_self _)]; exact get_push_eq, by show h.next < h.next + 1 + 1; omega, by omega⟩, ⟨get_push_eq, by show h.next + 1 < h.next + 1 + 1; omega, by omega, by omega⟩⟩
    rcases kid12 _ hm with e | e
    ·rw [e]
     refine brS_intro (fun _ => .inr ⟨(1, _, h.next, h.next + 1), (by first | rfl | exact True.intro), (by first | rfl | exact True.intro), (by first | rfl | exact True.intro), (by first | rfl | exact True.intro), (by first | rfl | exact True.intro), (by first | rfl | exact True.intro), ?_, (by first | rfl | exact True.intro), (by first | rfl | exact True.intro), ⟨st, trivial⟩, by dsimp only; omega⟩) (fun c => absurd c (by decide))
     dsimp only
     rw [hks, e]
     rfl
    ·rw [e]
     refine brS_intro (fun c => absurd c (by decide)) (fun _ => brS_intro (fun _ => .inr ⟨(1, _, h.next, h.next + 1), (by first | rfl | exact True.intro), (by first | rfl | exact True.intro), (by first | rfl | exact True.intro), (by first | rfl | exact True.intro), (by first | rfl | exact True.intro), (by first | rfl | exact True.intro), ?_, (by first | rfl | exact True.intro), (by first | rfl | exact True.intro), ⟨st, trivial⟩, by dsimp only; omega⟩) (fun c => absurd c (by decide)))
     dsimp only
     rw [hks, e]
     rfl
   ·rw [decide_eq_false_iff_not] at c
    have hz : l[i].ks.length = 0 := by omega
    refine needS_intro (by simp; omega) (ldI_at (by rw [tn]; exact e0) (needS_intro (by simp; omega) (ldI_at (by rw [tn]; exact e1) ⟨[⟨l[i].op, l[i].im, []⟩], ⟨rfl, rfl⟩, ⟨fun x hx => ?_, by simp, by simp, by simp⟩, q_eq (hk _ ⟨get_push_lt hid, Nat.le_succ _⟩) ?_⟩)))
    ·rw [List.mem_singleton.1 hx]
     exact ⟨by simp, hn.2.2.2⟩
    ·rw [hsk, hz]
     exact congrArg (IV.int .i64) (fw_last (S := []) (fun x hx => (List.not_mem_nil hx).elim) l[i].op l[i].im).symm
  ·rintro ⟨j, g, iF, iK⟩ _ ⟨st, _⟩
   obtain ⟨⟨hj0, hj⟩, ⟨hgi, hnx⟩, ⟨gF, lF, nF⟩, gK, lK, nK, nKF⟩ := (show NSt h id l i j g iF iK from st)
   rw [eD] at hj
   dsimp only
   have hg2 : g.get id = .cells (k0.map (IV.int .i64)) := hgi.trans hg
   refine brS_intro (fun c => ?_) (fun c => ?_)
   ·rw [decide_eq_true_eq] at c
    have hlt : j < l[i].ks.length := by omega
    have hm := List.getElem_mem hlt
    have hq := hbk _ hm
    obtain ⟨q1, q2⟩ := hk0 (l[i].ks[j]).toNat (by omega)
    have hks := kS_succ hi hlt
    refine needS_intro (by simp; omega) (ldI1 hlt (by rw [Nat.mul_one, tn]) (needS_intro (by simp; omega) (hget_intro hg2 (ldI1 q1 (by omega) ?_))))
    rw [q2]
    have gK2 : (g.set iF (.tip (j * 3 + 3))).get iK = .tip j := by rw [get_set_ne nKF]; exact gK
    have st2 : NSt h id l i (j + 1) ((g.set iF (.tip (j * 3 + 3))).set iK (.tip (j + 1))) iF iK := by
     refine ⟨⟨Nat.succ_pos _, by rw [eD]; exact hlt⟩, ⟨by rw [get_set_ne nK.symm, get_set_ne nF.symm]; exact hgi, hnx⟩, ⟨by rw [get_set_ne nKF.symm, get_set_eq]; congr 1; omega, lF, nF⟩, ⟨get_set_eq, lK, nK, nKF⟩⟩
    rcases kid12 _ hm with e | e
    ·rw [e]
     refine brS_intro (fun _ => tip_intro gF (needS_intro (by simp only [Bool.and_eq_true, nbeq_t, Nat.ble_eq, true_and]; omega) (tip_intro gK2 (needS_intro (by simp only [Bool.and_eq_true, nbeq_t, Nat.ble_eq, true_and]; omega) (.inr ⟨(j + 1, _, iF, iK), (by first | rfl | exact True.intro), (by first | rfl | exact True.intro), (by first | rfl | exact True.intro), (by first | rfl | exact True.intro), (by first | rfl | exact True.intro), ?_, ?_, ?_, (by first | rfl | exact True.intro), ⟨st2, trivial⟩, by dsimp only; omega⟩))))) (fun c => absurd c (by decide))
     ·rw [IntWalk.i64_in _ (by omega)]; rfl
     ·dsimp only
      rw [hks, e, List.map_append, List.flatMap_append, Nat.succ_mul]
      rfl
     ·dsimp only
      rw [rg_succ, List.map_append]
      rfl
    ·rw [e]
     refine brS_intro (fun c => absurd c (by decide)) (fun _ => brS_intro (fun _ => tip_intro gF (needS_intro (by simp only [Bool.and_eq_true, nbeq_t, Nat.ble_eq, true_and]; omega) (tip_intro gK2 (needS_intro (by simp only [Bool.and_eq_true, nbeq_t, Nat.ble_eq, true_and]; omega) (.inr ⟨(j + 1, _, iF, iK), (by first | rfl | exact True.intro), (by first | rfl | exact True.intro), (by first | rfl | exact True.intro), (by first | rfl | exact True.intro), (by first | rfl | exact True.intro), ?_, ?_, ?_, (by first | rfl | exact True.intro), ⟨st2, trivial⟩, by dsimp only; omega⟩))))) (fun c => absurd c (by decide)))
     ·rw [IntWalk.i64_in _ (by omega)]; rfl
     ·dsimp only
      rw [hks, e, List.map_append, List.flatMap_append, Nat.succ_mul]
      rfl
     ·dsimp only
      rw [rg_succ, List.map_append]
      rfl
   ·rw [decide_eq_false_iff_not] at c
    obtain rfl : j = l[i].ks.length := by omega
    have hw1 : IntKind.i64.wrap (((l[i].ks.length + 1 : Nat) : Int) - 1) = (l[i].ks.length : Int) := by rw [IntWalk.i64_in _ (by omega)]; omega
    have hkl2 := kS_len (l := l) (i := i) (j := l[i].ks.length) (by rw [eD]; exact Nat.le_refl _)
    have h12 := kS_12 hw hi (j := l[i].ks.length)
    refine needS_intro (by simp; omega) (ldI_at (by rw [tn]; exact e0) (needS_intro (by simp; omega) (ldI_at (by rw [tn]; exact e1) (tip_intro gF (needS_intro (by simp only [Bool.and_eq_true, nbeq_t, Nat.ble_eq, true_and]; omega) ⟨(kS l i l[i].ks.length).map fw ++ [⟨l[i].op, l[i].im, rg l[i].ks.length⟩], ⟨by simp [hkl2], ?_⟩, ⟨fw_ok hn.2.2.2 (by omega), by simp [hkl2]; omega, by rw [hw1]; omega, by rw [hw1]; simp [hkl2]; omega⟩, q_eq (hk _ ⟨?_, ?_⟩) ?_⟩)))))
    ·rw [kS_flat]
     congr 1
     show _ = [_, _, IV.vslice none 0 (rg l[i].ks.length).length 1 _]
     rw [rg_len]
    ·rw [get_set_ne nF.symm]; exact hgi
    ·exact hnx
    ·rw [hw1, tn, hsk]
     congr 1
     have := fw_last h12 l[i].op l[i].im
     rw [hkl2] at this
     exact this.symm
 ·exact hk.elim
def cANode := addC 31 kANode cBin
theorem okANode : Sound env cANode := sound_add sANode (okBin)
def asOut (l : List Nd) : Inv' := atX (Nat × Nat × Heap × List Int) (fun x => [(0, .v (.vslice none 0 (l).length 3 ((l).flatMap cN))), (3, .v (.hslice x.2.1 0 l.length 1)), (12, .v (.vslice none 0 (l).length 3 ((l).flatMap cN))), (13, .v (.int .i64 (l.length : Int))), (14, .v (.int .i64 (x.1 : Int)))]) (fun _ => []) (fun x => x.2.2.1) (fun x => AS l x.1 x.2.1 x.2.2.1 x.2.2.2 /\ True) (fun x => l.length - x.1)
def asIn (l : List Nd) : Inv' := atX (Nat × Nat × Heap × List Int × Nat) (fun x => [(0, .v (.vslice none 0 (l).length 3 ((l).flatMap cN))), (3, .v (.hslice x.2.1 0 l.length 1)), (12, .v (.vslice none 0 (l).length 3 ((l).flatMap cN))), (13, .v (.int .i64 (l.length : Int))), (14, .v (.int .i64 (x.1 : Int))), (4, .v (.int .i64 (x.1 : Int))), (6, .v (.bool false)), (20, .v (.vslice none 0 ((l.getD x.1 default).ks).length 1 (((l.getD x.1 default).ks).map (IV.int .i64)))), (21, .v (.int .i64 (l.getD x.1 default).ks.length)), (22, .v (.int .i64 (x.2.2.2.2 : Int)))]) (fun _ => []) (fun x => x.2.2.1)
 (fun x => AS l x.1 x.2.1 x.2.2.1 x.2.2.2.1 /\ x.1 < l.length /\ x.2.2.2.2 <= (l.getD x.1 default).ks.length) (fun x => (l.length - x.1) * 100 + ((l.getD x.1 default).ks.length - x.2.2.2.2))
def kANodes (xs : List IV) (h : Heap) (K : IV -> Heap -> Prop) : Prop := match xs with
 | [.vslice none e1 n1 3 c1] => ∃ l : List Nd, (n1 = l.length /\ c1 = l.flatMap cN) /\ WG l /\ K (.vslice none 0 (sortsA l).length 1 ((sortsA l).map (IV.int .i64))) h
 | _ => False
noncomputable def z16f (l : List Nd) := l.length
noncomputable def z16b (l : List Nd) := TV.v (.vslice none 0 (z16f l) 3 (List.flatMap cN l))
noncomputable def z16c (l : List Nd) (x_1 : Nat × Nat × Heap × List Int × Nat) := Nd.ks (List.getD l x_1.1 default)
noncomputable def z16d (l : List Nd) := TV.v (.int .i64 (↑(z16f l) : Int))
noncomputable def z16e (x_1 : Nat × Nat × Heap × List Int × Nat) := x_1.2.2.2
noncomputable def z16g (x_1 : Nat × Nat × Heap × List Int × Nat) := x_1.2.1
noncomputable def z16h (x_1 : Nat × Nat × Heap × List Int × Nat) := TV.v (.int .i64 (↑x_1.1 : Int))
noncomputable abbrev z16a (l : List Nd) (x_1 : Nat × Nat × Heap × List Int × Nat) := ∃ (x : Nat × Nat × Heap × List Int × Nat), some (z16b l) = some (z16b l) /\ some (TV.v (.hslice (z16g x_1) 0 (z16f l) 1)) = some (TV.v (.hslice x.2.1 0 (z16f l) 1)) /\ some (z16b l) = some (z16b l) /\ some (z16d l) = some (z16d l) /\ some (z16h x_1) = some (TV.v (.int .i64 (↑x.1 : Int))) /\ some (z16h x_1) = some (TV.v (.int .i64 (↑x.1 : Int))) /\ some (TV.v (.bool true)) = some (TV.v (.bool false)) /\ some (TV.v (.vslice none 0 (List.length (z16c l x_1)) 1 (List.map (IV.int .i64) (z16c l x_1)))) = some (TV.v (.vslice none 0 (List.length (Nd.ks (List.getD l x.1 default))) 1 (List.map (IV.int .i64) (Nd.ks (List.getD l x.1 default))))) /\ some (TV.v (.int .i64 (↑(List.length (z16c l x_1)) : Int))) = some (TV.v (.int .i64 (↑(List.length (Nd.ks (List.getD l x.1 default))) : Int))) /\ some (TV.v (.int .i64 (IntKind.wrap .i64 ((↑(Prod.snd (z16e x_1)) : Int) + 1)))) = some (TV.v (.int .i64 (↑x.2.2.2.2 : Int))) /\ x_1.2.2.1 = x.2.2.1 /\ (AS l x.1 x.2.1 x.2.2.1 x.2.2.2.1 /\ x.1 < l.length /\ x.2.2.2.2 <= List.length (Nd.ks (List.getD l x.1 default))) /\ (l.length - x.1) * 100 + (List.length (Nd.ks (List.getD l x.1 default)) - x.2.2.2.2) < (l.length - x_1.1) * 100 + (List.length (z16c l x_1) - Prod.snd (z16e x_1))
noncomputable def z16i (x_1 : Nat × Nat × Heap × List Int × Nat) := x_1.2.2.1
set_option maxRecDepth 100000 in
theorem vANodes (l : List Nd) (e1 : Nat) (h : Heap) (Q : IV -> Heap -> Prop) : dF (stdS cANode) env 16 noU (icA 4 (asOut l) (ic1 1000008 (asIn l))) noI [.vslice none e1 (l).length 3 ((l).flatMap cN)] h Q = (
 needS (pureL [IV.vslice none 0 (z16f l) 3 (List.flatMap cN l)]) (needS (decide (0 <= (↑(z16f l) : Int)) && (decide ((↑(z16f l) : Int) <= (↑(z16f l) : Int)) && (decide ((↑(z16f l) : Int) <= 9223372036854775807) && decide ((8 : Int) * (↑(z16f l) : Int) <= (140737488355328 :
 Int))))) ((∃ (x : Nat × Nat × Heap × List Int), some (z16b l) = some (z16b l) /\ some (TV.v (.hslice 0 0 (Int.toNat (↑(z16f l) : Int)) 1)) = some (TV.v (.hslice x.2.1 0 (z16f l) 1)) /\ some (z16b l) = some (z16b l) /\ some (z16d l) = some (z16d
 l) /\ some (TV.v (.int .i64 0)) = some (TV.v (.int .i64 (↑x.1 : Int))) /\ Heap.mk (PT.node PT.nil (some (IObj.cells (repl (Int.toNat (↑(z16f l) : Int)) [IV.int .i64 0]))) PT.nil) ((0 : Nat) + 1) = x.2.2.1 /\ (AS l (Prod.fst
 x) x.2.1 x.2.2.1 x.2.2.2 /\ True) /\ True) /\ ∀ (x : Nat × Nat × Heap × List Int) (b : FF), AS l x.1 x.2.1 x.2.2.1 x.2.2.2 /\ True -> brS (decide ((↑(Prod.fst
 x) : Int) < (↑(z16f l) : Int))) (needS (decide (0 <= (↑x.1 : Int)) && decide ((↑x.1 : Int) < (↑(z16f l) : Int))) (ldIS .i64 (List.flatMap cN l) (Int.toNat (↑x.1 : Int) * 3) fun n0 => ldIS .i64 (List.flatMap cN l) (Int.toNat (↑x.1
 : Int) * 3 + (1 : Nat)) fun n1 => ldVS 1 (List.flatMap cN l) (Int.toNat (↑x.1 : Int) * 3 + (1 : Nat) + 1) fun (i2 : Option Nat) (e3 l4 : Nat) (c5 : List IV) => ∃ (M : Nat), (∃ (x_1 : Nat × Nat × Heap × List Int × Nat), some (z16b l) = some (z16b l) /\ some
 (TV.v (.hslice x.2.1 0 (z16f l) 1)) = some (TV.v (.hslice (z16g x_1) 0 (z16f l) 1)) /\ some (z16b l) = some (z16b l) /\ some (z16d l) = some (z16d l) /\ some (TV.v (.int .i64 (↑x.1 : Int))) = some (z16h x_1) /\ some (TV.v (.int .i64
 (↑x.1 : Int))) = some (z16h x_1) /\ some (TV.v (.bool false)) = some (TV.v (.bool false)) /\ some (TV.v (.vslice i2 e3 l4 1 c5)) = some (TV.v (.vslice none 0 (List.length (z16c l x_1)) 1 (List.map (IV.int .i64) (z16c l x_1)))) /\ some (TV.v (.int .i64
 (↑l4 : Int))) = some (TV.v (.int .i64 (↑(List.length (z16c l x_1)) : Int))) /\ some (TV.v (.int .i64 0)) = some (TV.v (.int .i64 (↑(Prod.snd (z16e x_1)) : Int))) /\ x.2.2.1 = x_1.2.2.1 /\ (AS l x_1.1 (z16g x_1)
 (z16i x_1) (Prod.fst (z16e x_1)) /\ x_1.1 < l.length /\ Prod.snd (z16e x_1) <= List.length (z16c l x_1)) /\ (l.length - x_1.1) * 100 + (List.length (z16c l x_1) - Prod.snd (z16e x_1)) <= M) /\ ∀ (x_1 : Nat × Nat × Heap × List Int × Nat) (b : FF), AS l x_1.1 (z16g x_1)
 (z16i x_1) (Prod.fst (z16e x_1)) /\ x_1.1 < l.length /\ Prod.snd (z16e x_1) <= List.length (z16c l x_1) -> (l.length - x_1.1) * 100 + (List.length (z16c l x_1) - Prod.snd (z16e x_1)) <= M -> brS (decide ((↑(Prod.snd (z16e x_1)) : Int) < (↑(List.length (z16c l x_1)) : Int)))
 (needS (decide (0 <= (↑(Prod.snd (z16e x_1)) : Int)) && decide ((↑(Prod.snd (z16e x_1)) : Int) < (↑(List.length (z16c l x_1)) : Int))) (ldIS .i64 (List.map (IV.int .i64) (z16c l x_1)) (Int.toNat (↑(Prod.snd (z16e x_1)) : Int) * 1) fun n6 => brS (decide (n6 < (0 :
 Int))) (z16a l x_1) (brS (decide (n6 >= (↑x_1.1 : Int))) (z16a l x_1) (needS (decide (0 <= n6) && decide (n6 < (↑(z16f l) : Int))) (hgetS (z16i x_1) (z16g x_1) fun r7 => ldIS .i64 r7 ((0 : Nat) + n6.toNat * 1) fun n8 => ∃ (x : Nat × Nat × Heap × List
 Int × Nat), some (z16b l) = some (z16b l) /\ some (TV.v (.hslice (z16g x_1) 0 (z16f l) 1)) = some (TV.v (.hslice x.2.1 0 (z16f l) 1)) /\ some (z16b l) = some (z16b l) /\ some (z16d l) = some (z16d l) /\ some (z16h x_1) = some (TV.v (.int .i64
 (↑x.1 : Int))) /\ some (z16h x_1) = some (TV.v (.int .i64 (↑x.1 : Int))) /\ some (TV.v (.bool (n8 == 0))) = some (TV.v (.bool false)) /\ some (TV.v (.vslice none 0 (List.length (z16c l x_1)) 1 (List.map (IV.int .i64) (z16c l x_1)))) = some
 (TV.v (.vslice none 0 (List.length (Nd.ks (List.getD l x.1 default))) 1 (List.map (IV.int .i64) (Nd.ks (List.getD l x.1 default))))) /\ some (TV.v (.int .i64 (↑(List.length (z16c l x_1)) : Int))) = some (TV.v (.int .i64 (↑(List.length (Nd.ks
 (List.getD l x.1 default))) : Int))) /\ some (TV.v (.int .i64 (IntKind.wrap .i64 ((↑(Prod.snd (z16e x_1)) : Int) + 1)))) = some (TV.v (.int .i64 (↑x.2.2.2.2 : Int))) /\ x_1.2.2.1 = Prod.fst (Prod.snd
 x.2) /\ (AS l x.1 x.2.1 x.2.2.1 x.2.2.2.1 /\ x.1 < l.length /\ x.2.2.2.2 <= List.length (Nd.ks (List.getD l x.1 default))) /\ (l.length - Prod.fst
 x) * 100 + (List.length (Nd.ks (List.getD l x.1 default)) - x.2.2.2.2) < (l.length - x_1.1) * 100 + (List.length (z16c l x_1) - Prod.snd (z16e x_1))))))) (∃ (l_1 : List Nd), ∃ (i : Nat), ∃ (k0 : List Int), (l.length = List.length
 l_1 /\ List.flatMap cN l = List.flatMap cN l_1 /\ (↑x_1.1 : Int) = (↑i : Int) /\ l.length = k0.length) /\ (WG l_1 /\ NP (z16i x_1) (z16g x_1) l_1 i k0) /\ ∀ (h2 : Heap), Heap.get h2 (z16g x_1) = Heap.get (z16i x_1) (z16g x_1) /\ Heap.next (z16i x_1) <= Heap.next h2 -> needS (decide ((0 : Int)
 <= (↑x_1.1 : Int)) && decide ((↑x_1.1 : Int) < (↑(z16f l) : Int))) (hgetS h2 (z16g x_1) fun r9 => needS (Nat.ble ((0 : Nat) + Int.toNat (↑x_1.1 : Int) * 1 + (1 : Nat)) r9.length) (∃ (x_2 : Nat × Nat × Heap × List Int), some (z16b l) = some (z16b l)
 /\ some (TV.v (.hslice (z16g x_1) 0 (z16f l) 1)) = some (TV.v (.hslice x_2.2.1 0 (z16f l) 1)) /\ some (z16b l) = some (z16b l) /\ some (z16d l) = some (z16d l) /\ some (TV.v (.int .i64 (IntKind.wrap .i64 ((↑x_1.1 : Int) + (1 :
 Int))))) = some (TV.v (.int .i64 (↑x_2.1 : Int))) /\ Heap.set h2 (z16g x_1) (IObj.cells (List.take ((0 : Nat) + Int.toNat (↑x_1.1 : Int) * 1) r9 ++ [IV.int .i64 (List.getD (sortsA l_1) i 0)] ++ List.drop ((0 : Nat) + Int.toNat (↑x_1.1 : Int) *
 (1 : Nat) + 1) r9)) = x_2.2.2.1 /\ (AS l x_2.1 x_2.2.1 x_2.2.2.1 x_2.2.2.2 /\ True) /\ l.length - x_2.1 < l.length - x.1))))) (hgetS x.2.2.1
 x.2.1 fun r10 => needS (true && Nat.ble ((0 : Nat) + l.length * 1) r10.length) (needS (pureL [IV.vslice none 0 (z16f l) 1 (List.take (l.length * 1) r10)]) (Q (.vslice none 0 (z16f l) 1 (List.take (List.length
 l * 1) r10)) h)))))) := by kernel_rfl
set_option maxHeartbeats 2000000 in
theorem sANodes : ∀ xs h Q, kANodes xs h Q -> CallW env 16 xs h Q := by
 intro xs h Q hk
 unfold kANodes at hk
 split at hk
 ·rename_i e1 n1 c1
  obtain ⟨l, ⟨rfl, rfl⟩, hw, hk⟩ := hk
  refine dF_run (okANode) (vANodes l e1 h Q) ?_
  delta z16a z16b z16c z16d z16e z16f z16g z16h z16i
  have tn : ∀ x : Nat, (x : Int).toNat = x := Int.toNat_natCast
  refine needS_intro (by simp only [pureL, pureB, pureL_cN, Bool.and_true]) (needS_intro (by have := hw.ln; simp; omega) ⟨⟨(0, 0, _, List.replicate l.length 0), (by first | rfl | exact True.intro), (by rw [tn]), (by first | rfl | exact True.intro), (by first | rfl | exact True.intro), (by first | rfl | exact True.intro), (by first | rfl | exact True.intro), ⟨⟨Nat.zero_le _, ?_, Nat.one_pos, by simp, rfl⟩, trivial⟩, trivial⟩, ?_⟩)
  ·show IObj.cells (repl _ _) = _
   rw [tn, repl_zero]
  have hlen := hw.ln
  have facts : ∀ i, i < l.length -> (l.getD i default).ks.length <= 3 /\ (∀ k ∈ (l.getD i default).ks, 0 <= k /\ k < i) /\ ∀ k : Int, (∀ k0 : List Int, k0.length = l.length -> k0.take i = (sortsA l).take i -> 0 <= k -> k < i -> ∃ q : k.toNat < k0.length, (k0[k.toNat] == 0) = false) := fun i hi => by
   have eD : l.getD i default = l[i] := by rw [List.getD_eq_getElem?_getD, List.getElem?_eq_getElem hi]; rfl
   rw [eD]
   refine ⟨(hw.ok _ (List.getElem_mem hi)).2.1, hw.back i _ (List.getElem?_eq_getElem hi), fun k k0 h1 h2 h3 h4 => ⟨by omega, ?_⟩⟩
   have e : (k0.take i)[k.toNat]? = ((sortsA l).take i)[k.toNat]? := by rw [h2]
   have hq : k.toNat < (sortsA l).length := by rw [sortsA_len]; omega
   rw [List.getElem?_take_of_lt (by omega), List.getElem?_take_of_lt (by omega), List.getElem?_eq_getElem (by omega), List.getElem?_eq_getElem hq, Option.some.injEq] at e
   rw [e, beq_eq_false_iff_ne]
   exact hw.wf _ (List.getElem_mem hq)
  rintro ⟨i, id, g, k0⟩ _ ⟨ha, _⟩
  obtain ⟨hi, hg, hid, hkl, hkt⟩ := (show AS l i id g k0 from ha)
  dsimp only
  refine brS_intro (fun c => ?_) (fun c => ?_)
  ·rw [decide_eq_true_eq] at c
   have hlt : i < l.length := by omega
   have eD : l.getD i default = l[i] := by rw [List.getD_eq_getElem?_getD, List.getElem?_eq_getElem hlt]; rfl
   obtain ⟨f1, _, _⟩ := facts i hlt
   rw [eD] at f1
   refine needS_intro (by simp; omega) (ldNd hlt (by rw [tn]) ⟨(l.length - i) * 100 + l[i].ks.length, ⟨(i, id, g, k0, 0), (by first | rfl | exact True.intro), (by first | rfl | exact True.intro), (by first | rfl | exact True.intro), (by first | rfl | exact True.intro), (by first | rfl | exact True.intro), (by first | rfl | exact True.intro), (by first | rfl | exact True.intro), (by dsimp only; rw [eD]), (by dsimp only; rw [eD]), (by first | rfl | exact True.intro), (by first | rfl | exact True.intro), ⟨ha, hlt, Nat.zero_le _⟩, by dsimp only; rw [eD]; omega⟩, ?_⟩)
   rintro ⟨i2, id2, g2, k2, j⟩ _ ⟨ha2, hlt2, hj⟩ hM
   dsimp only at ha2 hlt2 hj hM ⊢
   obtain ⟨hi2, hg2, hid2, hkl2, hkt2⟩ := (show AS l i2 id2 g2 k2 from ha2)
   obtain ⟨f2, f3, f4⟩ := facts i2 hlt2
   refine brS_intro (fun c1 => ?_) (fun c1 => ?_)
   ·rw [decide_eq_true_eq] at c1
    have hjl : j < (l.getD i2 default).ks.length := by omega
    have hq := f3 _ (List.getElem_mem hjl)
    obtain ⟨q1, q2⟩ := f4 _ k2 hkl2 hkt2 hq.1 hq.2
    refine needS_intro (and_dec ⟨by omega, by omega⟩) (ldI1 hjl (by rw [Nat.mul_one, tn]) (brS_intro (fun c2 => absurd (of_decide_eq_true c2) (by omega)) (fun _ => brS_intro (fun c2 => absurd (of_decide_eq_true c2) (by omega)) (fun _ => needS_intro (and_dec ⟨by omega, by omega⟩) (hget_intro hg2 (ldI1 q1 (by omega) ⟨(i2, id2, g2, k2, j + 1), (by first | rfl | exact True.intro), (by first | rfl | exact True.intro), (by first | rfl | exact True.intro), (by first | rfl | exact True.intro), (by first | rfl | exact True.intro), (by first | rfl | exact True.intro), (by rw [q2]), (by first | rfl | exact True.intro), (by first | rfl | exact True.intro), (by rw [IntWalk.i64_in _ (by omega)]; rfl), (by first | rfl | exact True.intro), ⟨ha2, hlt2, hjl⟩, by dsimp only; omega⟩))))))
   ·rw [decide_eq_false_iff_not] at c1
    refine ⟨l, i2, k2, ⟨rfl, rfl, rfl, hkl2.symm⟩, ⟨hw, hlt2, hg2, hid2, hkl2, hkt2⟩, fun h2 ⟨e2, n2⟩ => needS_intro (by simp; omega) (hget_intro (e2.trans hg2) (needS_intro (by rw [Nat.ble_eq]; simp; omega) ⟨(i2 + 1, id2, h2.set id2 (.cells ((k2.take i2 ++ [(sortsA l).getD i2 0] ++ k2.drop (i2 + 1)).map (IV.int .i64))), k2.take i2 ++ [(sortsA l).getD i2 0] ++ k2.drop (i2 + 1)), (by first | rfl | exact True.intro), (by first | rfl | exact True.intro), (by first | rfl | exact True.intro), (by first | rfl | exact True.intro), (by rw [IntWalk.i64_in _ (by omega)]; rfl), ?_, ⟨⟨hlt2, get_set_eq, Nat.lt_of_lt_of_le hid2 n2, ?_, ?_⟩, trivial⟩, by dsimp only; omega⟩))⟩
    ·dsimp only
     rw [tn, Nat.zero_add, Nat.mul_one]
     simp
    ·simp; omega
    ·dsimp only
     have hs : i2 < (sortsA l).length := by rw [sortsA_len]; exact hlt2
     have h1 : (k2.take i2).length = i2 := by rw [List.length_take]; omega
     rw [List.take_append_of_le_length (by simp; omega), List.take_of_length_le (by simp; omega), hkt2, List.take_succ_eq_append_getElem hs, List.getD_eq_getElem?_getD, List.getElem?_eq_getElem hs]
     rfl
  ·rw [decide_eq_false_iff_not] at c
   obtain rfl : i = l.length := by omega
   have hs : (sortsA l).length = l.length := sortsA_len l
   rw [List.take_of_length_le (by omega), List.take_of_length_le (by omega)] at hkt
   subst hkt
   refine hget_intro hg (needS_intro (by simp; omega) ?_)
   rw [List.take_of_length_le (by simp; omega)]
   rw [hs] at hk
   exact needS_intro (by simp only [pureL, pureB, pureL_ints, Bool.and_true]) hk
 ·exact hk.elim
def cANodes := addC 16 kANodes cANode
theorem okANodes : Sound env cANodes := sound_add sANodes (okANode)
def kSetI (xs : List IV) (h : Heap) (K : IV -> Heap -> Prop) : Prop := match xs with
 | [.ptr id 0, .vslice none 0 0 3 []] => ∃ (a b c d : IV), (h.get id = .cells [a, b, c, d] /\ id < h.next) /\ ∀ (h2 : Heap) (m : Nat), h2.get id = .cells [a, b, .map m, d] -> (∀ j, j < h.next -> j ≠ id -> h2.get j = h.get j) -> h.next <= h2.next -> K (.tuple []) h2
 | _ => False
set_option maxRecDepth 100000 in
theorem vSetI (id : Nat) (h : Heap) (Q : IV -> Heap -> Prop) : dF (stdS cANodes) env 17 (fun k => if k = 4 then 1 else 0) noI noI [.ptr id 0, .vslice none 0 0 3 []] h Q = (
 hgetS (Heap.push h (IObj.map [])) id fun r0 =>
 needS (Nat.ble 3 r0.length) (Q (.tuple []) (Heap.push (Heap.set (Heap.push h (IObj.map [])) id (IObj.cells (List.take 2 r0 ++ [IV.map (Heap.next h)] ++ List.drop 3 r0))) (IObj.map [])))) := by kernel_rfl
theorem sSetI : ∀ xs h Q, kSetI xs h Q -> CallW env 17 xs h Q := by
 intro xs h Q hk
 unfold kSetI at hk
 split at hk
 ·rename_i id
  obtain ⟨a, b, c, d, hb, hk⟩ := hk
  refine dF_run (okANodes) (vSetI id h Q) ?_
  obtain ⟨hg, hid⟩ := hb
  have g1 : (h.push (.map [])).get id = .cells [a, b, c, d] := (get_push_lt hid).trans hg
  refine hget_intro g1 (needS_intro rfl (hk _ h.next ?_ (fun j h1 h2 => ?_) (by show h.next <= h.next + 1 + 1; omega)))
  ·rw [get_push_lt (show id < h.next + 1 by omega), get_set_eq]
   rfl
  ·rw [get_push_lt (show j < h.next + 1 by omega), get_set_ne h2, get_push_lt h1]
 ·exact hk.elim
def cSetI := addC 17 kSetI cANodes
theorem okSetI : Sound env cSetI := sound_add sSetI (okANodes)
def ivInv (id : Nat) (l : List Nd) (h : Heap) : Inv' := atX (Nat × Heap × Nat × Nat × List (Int × Int)) (fun x => [(0, .v (.ptr id 0)), (4, .v (.hslice x.2.2.1 0 l.length 2)), (5, .v (.hslice x.2.2.2.1 0 l.length 1)), (27, .v (.vslice none 0 (l).length 3 ((l).flatMap cN))), (28, .v (.int .i64 (l.length : Int))), (29, .v (.int .i64 (x.1 : Int)))]) (fun _ => []) (fun x => x.2.1) (fun x => IVh l x.1 x.2.1 x.2.2.1 x.2.2.2.1 x.2.2.2.2 id h /\ True) (fun x => l.length - x.1)
def kIvs (xs : List IV) (h : Heap) (K : IV -> Heap -> Prop) : Prop := match xs with
 | [.ptr id 0] => ∃ (l : List Nd) (mA mB : IV), (h.get id = .cells [.vslice none 0 (l).length 3 ((l).flatMap cN), .vslice none 0 (sortsA l).length 1 ((sortsA l).map (IV.int .i64)), mA, mB] /\ id < h.next) /\ WG l /\ ∀ (h2 : Heap) (iR iU : Nat) (R : List (Int × Int)), R.length = l.length -> (∀ q, q < l.length -> IvOk l q (R.getD q (0, 0))) -> h2.get iR = .cells (R.flatMap cR) -> K (.tuple [.hslice iR 0 l.length 2, .hslice iU 0 l.length 1]) h2
 | _ => False
noncomputable def z18h (x : Nat × Heap × Nat × Nat × List (Int × Int)) := (0 : Nat) + Int.toNat (↑x.1 : Int) * 2 + (2 : Nat)
noncomputable def z18i (x : Nat × Heap × Nat × Nat × List (Int × Int)) := x.2.2.1
noncomputable def z18r (x : Nat × Heap × Nat × Nat × List (Int × Int)) := (0 : Nat) + Int.toNat (↑x.1 : Int) * 2
noncomputable def z18a (x : Nat × Heap × Nat × Nat × List (Int × Int)) (r21 : List IV) := Heap.set x.2.1 (z18i x) (IObj.cells (List.take (z18r x) r21 ++ [IV.int .i64 (-9223372036854775808), IV.int .i64 9223372036854775807] ++ List.drop (z18h x) r21))
noncomputable abbrev z18e (id : Nat) (l : List Nd) (h : Heap) (x_1 : Nat × Heap × Nat × Nat × List (Int × Int)) := IVh l x_1.1 x_1.2.1 x_1.2.2.1 x_1.2.2.2.1 x_1.2.2.2.2 id h /\ True
noncomputable def z18x (l : List Nd) := l.length
noncomputable def z18f (l : List Nd) := TV.v (.vslice none 0 (z18x l) 3 (List.flatMap cN l))
noncomputable def z18k (l : List Nd) := TV.v (.int .i64 (↑(z18x l) : Int))
noncomputable def z18l (l : List Nd) (x_1 : Nat × Heap × Nat × Nat × List (Int × Int)) := TV.v (.hslice x_1.2.2.2.1 0 (z18x l) 1)
noncomputable def z18m (x : Nat × Heap × Nat × Nat × List (Int × Int)) := TV.v (.int .i64 (IntKind.wrap .i64 ((↑x.1 : Int) + 1)))
noncomputable def z18n (l : List Nd) (x_1 : Nat × Heap × Nat × Nat × List (Int × Int)) := TV.v (.hslice x_1.2.2.1 0 (z18x l) 2)
noncomputable def z18p (l : List Nd) (x : Nat × Heap × Nat × Nat × List (Int × Int)) := TV.v (.hslice (z18i x) 0 (z18x l) 2)
noncomputable def z18g (x : Nat × Heap × Nat × Nat × List (Int × Int)) := x.2.2.2.1
noncomputable def z18q (l : List Nd) (x : Nat × Heap × Nat × Nat × List (Int × Int)) := TV.v (.hslice (z18g x) 0 (z18x l) 1)
noncomputable def z18s (id : Nat) := TV.v (.ptr id 0)
noncomputable def z18u (x_1 : Nat × Heap × Nat × Nat × List (Int × Int)) := TV.v (.int .i64 (↑x_1.1 : Int))
noncomputable abbrev z18b (id : Nat) (l : List Nd) (h : Heap) (x : Nat × Heap × Nat × Nat × List (Int × Int)) (r21 : List IV) := ∃ (x_1 : Nat × Heap × Nat × Nat × List (Int × Int)), some (z18s id) = some (z18s id) /\ some (z18p l x) = some (z18n l x_1) /\ some (z18q l x) = some (z18l l x_1) /\ some (z18f l) = some (z18f l) /\ some (z18k l) = some (z18k l) /\ some (z18m x) = some (z18u x_1) /\ Heap.set x.2.1 (z18i x) (IObj.cells (List.take (z18r x) r21 ++ [IV.int .i64 (-9223372036854775808), IV.int .i64 9223372036854775807] ++ List.drop (z18h x) r21)) = x_1.2.1 /\ (z18e id l h x_1) /\ l.length - x_1.1 < l.length - x.1
noncomputable def z18c (x : Nat × Heap × Nat × Nat × List (Int × Int)) (r21 r53 : List IV) (n43 n44 n47 n48 n51 n52 : Int) := Heap.set (z18a x r21) (z18i x) (IObj.cells (List.take (z18r x) r53 ++ [IV.int .i64 (Prod.fst (isel n43 n44 n47 n48 n51 n52)), IV.int .i64 (Prod.snd (isel n43 n44 n47 n48 n51 n52))] ++ List.drop (z18h x) r53))
noncomputable def z18d (l : List Nd) (x : Nat × Heap × Nat × Nat × List (Int × Int)) := decide (0 <= (↑x.1 : Int)) && decide ((↑x.1 : Int) < (↑(z18x l) : Int))
noncomputable def z18j (x : Nat × Heap × Nat × Nat × List (Int × Int)) := (0 : Nat) + Int.toNat (↑x.1 : Int) * 1 + (1 : Nat)
noncomputable def z18o (h : Heap) (l3 : Nat) := Heap.set (Heap.push (Heap.push h IObj.free) IObj.free) (Heap.next h) (IObj.cells (repl (Int.toNat (↑l3 : Int)) [IV.int .i64 0, IV.int .i64 0]))
noncomputable def z18t (x : Nat × Heap × Nat × Nat × List (Int × Int)) := (0 : Nat) + Int.toNat (↑x.1 : Int) * 1
noncomputable def z18v (l19 : Nat) := true && decide (0 < (↑l19 : Int))
noncomputable def z18w (n15 n87 n88 n90 n91 : Int) := [IV.int .i64 (Prod.fst (ibin n15 n87 n88 n90 n91)), IV.int .i64 (Prod.snd (ibin n15 n87 n88 n90 n91))]
noncomputable def z18y (l19 : Nat) := true && decide (1 < (↑l19 : Int))
set_option maxRecDepth 100000 in
theorem vIvs (id : Nat) (l : List Nd) (mA mB : IV) (h : Heap) (Q : IV -> Heap -> Prop) : dF (stdS cSetI) env 18 noU (ic1 4 (ivInv id l h)) noI [.ptr id 0] h Q = (
 hgetS (Heap.push (Heap.push h IObj.free) IObj.free) id fun r0 => ldVS 3 r0 0 fun (i1 : Option Nat) (e2 l3 : Nat) (c4 : List IV) => needS (decide (0 <= (↑l3 : Int)) && (decide ((↑l3 : Int) <= (↑l3 : Int)) && (decide ((↑l3 : Int) <= 9223372036854775807) && decide
 ((16 : Int) * (↑l3 : Int) <= 140737488355328)))) (freS (Heap.push (Heap.push h IObj.free) IObj.free) (Heap.next h) (hgetS (z18o h l3) id fun r5 => ldVS 3 r5 0 fun (i6 : Option Nat) (e7 l8 : Nat) (c9 : List IV) => needS (!Nat.beq (Heap.next h) id) (needS (decide ((0
 : Int) <= (↑l8 : Int)) && (decide ((↑l8 : Int) <= (↑l8 : Int)) && (decide ((↑l8 : Int) <= 9223372036854775807) && decide ((1 : Int) * (↑l8 : Int) <= 140737488355328)))) (freS (z18o h l3) (Heap.next h + 1) (hgetS (Heap.set (z18o h l3) (Heap.next h + 1) (IObj.cells (repl (Int.toNat
 (↑l8 : Int)) [IV.bool false]))) id fun r10 => ldVS 3 r10 0 fun (i11 : Option Nat) (e12 l13 : Nat) (c14 : List IV) => (∃ (x : Nat × Heap × Nat × Nat × List (Int × Int)), some (z18s id) = some (z18s id) /\ some (TV.v (.hslice (Heap.next h) 0 (Int.toNat (↑l3 : Int))
 2)) = some (z18p l x) /\ some (TV.v (.hslice (Heap.next h + 1) 0 (Int.toNat (↑l8 : Int)) 1)) = some (z18q l x) /\ some (TV.v (.vslice i11 e12 l13 3 c14)) = some (z18f l) /\ some (TV.v (.int .i64 (↑l13 : Int))) = some (z18k l) /\ some (TV.v (.int .i64
 (0 : Int))) = some (TV.v (.int .i64 (↑x.1 : Int))) /\ Heap.set (z18o h l3) (Heap.next h + 1) (IObj.cells (repl (Int.toNat (↑l8 : Int)) [IV.bool false])) = x.2.1 /\ (IVh l x.1 x.2.1 (z18i x) (z18g x) (Prod.snd (Prod.snd (Prod.snd (Prod.snd
 x)))) id h /\ True) /\ True) /\ ∀ (x : Nat × Heap × Nat × Nat × List (Int × Int)) (b : FF), IVh l x.1 x.2.1 (z18i x) (z18g x) x.2.2.2.2 id h /\ True -> brS (decide ((↑x.1 : Int) < (↑(z18x l) : Int))) (needS (z18d l x) (ldIS .i64
 (List.flatMap cN l) (Int.toNat (↑x.1 : Int) * 3) fun n15 => ldIS .i64 (List.flatMap cN l) (Int.toNat (↑x.1 : Int) * 3 + (1 : Nat)) fun n16 => ldVS 1 (List.flatMap cN l) (Int.toNat (↑x.1 : Int) * 3 + (1 : Nat) + 1)
 fun (i17 : Option Nat) (e18 l19 : Nat) (c20 : List IV) => needS (z18d l x) (hgetS x.2.1 (z18i x) fun r21 => needS (Nat.ble (z18h x) r21.length) (hgetS (z18a x r21) id fun r22 => ldVS 1 r22 1 fun (i23 : Option Nat) (e24 l25 : Nat) (c26 :
 List IV) => needS (decide (0 <= (↑x.1 : Int)) && decide ((↑x.1 : Int) < (↑l25 : Int))) (ldIS .i64 c26 (Int.toNat (↑x.1 : Int) * 1) fun n27 => brS (n27 != 1) (z18b id l h x r21) (brS (n15 == 1) (needS (z18d l x) (hgetS (z18a x r21)
 (z18i x) fun r28 => needS (Nat.ble (z18h x) r28.length) (∃ (x_1 : Nat × Heap × Nat × Nat × List (Int × Int)), some (z18s id) = some (z18s id) /\ some (z18p l x) = some (z18n l x_1) /\ some (z18q l x) = some (z18l l x_1) /\ some (z18f l) = some (z18f l) /\ some (z18k l) = some (z18k l)
 /\ some (z18m x) = some (z18u x_1) /\ Heap.set (z18a x r21) (z18i x) (IObj.cells (List.take (z18r x) r28 ++ [IV.int .i64 n16, IV.int .i64 n16] ++ List.drop (z18h x) r28)) = x_1.2.1 /\ (z18e id l h x_1) /\ l.length - x_1.1 < l.length - x.1))) (brS (n15
 == (3 : Int)) False (brS (n15 == 25) (hgetS (z18a x r21) id fun r29 => ldVS 3 r29 0 fun (i30 : Option Nat) (e31 l32 : Nat) (c33 : List IV) => needS (z18v l19) (ldIS .i64 c20 0 fun n34 => needS (decide (0 <= n34) && decide (n34 < (↑l32
 : Int))) (ldIS .i64 c33 (n34.toNat * 3) fun n35 => ldIS .i64 c33 (n34.toNat * 3 + (1 : Nat)) fun n36 => ldVS 1 c33 (n34.toNat * 3 + (1 : Nat) + 1) fun (i37 : Option Nat) (e38 l39 : Nat) (c40 : List IV) => False))) (brS
 (n15 == 22) (needS (z18v l19) (ldIS .i64 c20 0 fun n41 => needS (decide (0 <= n41) && decide (n41 < (↑(z18x l) : Int))) (hgetS (z18a x r21) (z18i x) fun r42 => ldIS .i64 r42 ((0 : Nat) + n41.toNat * 2) fun n43 => ldIS .i64
 r42 ((0 : Nat) + n41.toNat * 2 + (1 : Nat)) fun n44 => needS (z18y l19) (ldIS .i64 c20 1 fun n45 => needS (decide (0 <= n45) && decide (n45 < (↑(z18x l) : Int))) (hgetS (z18a x r21) (z18i x) fun r46 => ldIS .i64 r46 ((0 : Nat) + Int.toNat
 n45 * 2) fun n47 => ldIS .i64 r46 ((0 : Nat) + n45.toNat * 2 + (1 : Nat)) fun n48 => needS (true && decide (2 < (↑l19 : Int))) (ldIS .i64 c20 2 fun n49 => needS (decide (0 <= n49) && decide (n49 < (↑(z18x l) : Int))) (hgetS
 (z18a x r21) (z18i x) fun r50 => ldIS .i64 r50 ((0 : Nat) + n49.toNat * 2) fun n51 => ldIS .i64 r50 ((0 : Nat) + n49.toNat * 2 + (1 : Nat)) fun n52 => needS (z18d l x) (hgetS (z18a x r21) (z18i x) fun r53 => needS (Nat.ble
 (z18h x) r53.length) (needS (z18v l19) (ldIS .i64 c20 0 fun n54 => needS (decide (0 <= n54) && decide (n54 < (↑(z18x l) : Int))) (hgetS (z18c x r21 r53 n43 n44 n47 n48 n51 n52) (z18g x) fun r55 => ldBS r55 ((0 : Nat) + n54.toNat * 1) fun (b56
 : Bool) => brS b56 (needS (z18d l x) (hgetS (z18c x r21 r53 n43 n44 n47 n48 n51 n52) (z18g x) fun r57 => needS (Nat.ble (z18j x) r57.length) (∃ (x_1 : Nat × Heap × Nat × Nat × List (Int × Int)), some (z18s id) = some (z18s id) /\ some (z18p l x) = some (z18n l x_1) /\ some (z18q l x)
 = some (z18l l x_1) /\ some (z18f l) = some (z18f l) /\ some (z18k l) = some (z18k l) /\ some (z18m x) = some (z18u x_1) /\ Heap.set (z18c x r21 r53 n43 n44 n47 n48 n51 n52) (z18g x) (IObj.cells (List.take (z18t x) r57 ++ [IV.bool true] ++ List.drop (z18j x) r57)) = x_1.2.1 /\ (z18e id l h
 x_1) /\ l.length - x_1.1 < l.length - x.1))) (needS (z18y l19) (ldIS .i64 c20 1 fun n58 => needS (decide (0 <= n58) && decide (n58 < (↑(z18x l) : Int))) (hgetS (z18c x r21 r53 n43 n44 n47 n48 n51 n52) (z18g x) fun r59 => ldBS r59 ((0 :
 Nat) + n58.toNat * 1) fun b60 => brS b60 (needS (z18d l x) (hgetS (z18c x r21 r53 n43 n44 n47 n48 n51 n52) (z18g x) fun r61 => needS (Nat.ble (z18j x) r61.length) (∃ (x_1 : Nat × Heap × Nat × Nat × List (Int × Int)), some (z18s id) = some (z18s id) /\ some (z18p
 l x) = some (z18n l x_1) /\ some (z18q l x) = some (z18l l x_1) /\ some (z18f l) = some (z18f l) /\ some (z18k l) = some (z18k l) /\ some (z18m x) = some (z18u x_1) /\ Heap.set (z18c x r21 r53 n43 n44 n47 n48 n51 n52) (z18g x) (IObj.cells (List.take (z18t x) r61 ++ [IV.bool true] ++ List.drop (z18j x) r61))
 = x_1.2.1 /\ (z18e id l h x_1) /\ l.length - x_1.1 < l.length - x.1))) (needS (true && decide (2 < (↑l19 : Int))) (ldIS .i64 c20 2 fun n62 => needS (decide (0 <= n62) && decide (n62 < (↑(z18x l) : Int))) (hgetS (z18c x r21 r53
 n43 n44 n47 n48 n51 n52) (z18g x) fun r63 => ldBS r63 ((0 : Nat) + n62.toNat * 1) fun b64 => needS (z18d l x) (hgetS (z18c x r21 r53 n43 n44 n47 n48 n51 n52) (z18g x) fun r65 => needS (Nat.ble (z18j x) r65.length) (∃ (x_1 : Nat × Heap × Nat × Nat ×
 List (Int × Int)), some (z18s id) = some (z18s id) /\ some (z18p l x) = some (z18n l x_1) /\ some (z18q l x) = some (z18l l x_1) /\ some (z18f l) = some (z18f l) /\ some (z18k l) = some (z18k l) /\ some (z18m x) = some (z18u x_1) /\ Heap.set (z18c x r21 r53 n43 n44 n47 n48 n51 n52) (z18g x) (IObj.cells (List.take
 (z18t x) r65 ++ [IV.bool b64] ++ List.drop (z18j x) r65)) = x_1.2.1 /\ (z18e id l h x_1) /\ l.length - x_1.1 < l.length - x.1))))))))))))))))))) (brS (n15 == 20) (needS (z18v l19) (ldIS .i64 c20 0 fun n66 => needS (decide ((0 : Int)
 <= n66) && decide (n66 < (↑(z18x l) : Int))) (hgetS (z18a x r21) (z18i x) fun r67 => ldIS .i64 r67 ((0 : Nat) + n66.toNat * 2) fun n68 => ldIS .i64 r67 ((0 : Nat) + n66.toNat * 2 + (1 : Nat)) fun n69 => needS (z18v l19) (ldIS .i64
 c20 0 fun n70 => needS (decide (0 <= n70) && decide (n70 < (↑(z18x l) : Int))) (hgetS (z18a x r21) (z18g x) fun r71 => ldBS r71 ((0 : Nat) + n70.toNat * 1) fun b72 => needS (z18d l x) (hgetS (z18a x r21) (z18i x) fun r73 => needS (Nat.ble
 (z18h x) r73.length) (needS (z18d l x) (hgetS (Heap.set (z18a x r21) (z18i x) (IObj.cells (List.take (z18r x) r73 ++ [IV.int .i64 (Prod.fst (iun n15 n68 n69)), IV.int .i64 (Prod.snd (iun n15 n68 n69))] ++ List.drop (z18h x) r73))) (z18g x) fun r74 => needS (Nat.ble (z18j
 x) r74.length) (∃ (x_1 : Nat × Heap × Nat × Nat × List (Int × Int)), some (z18s id) = some (z18s id) /\ some (z18p l x) = some (z18n l x_1) /\ some (z18q l x) = some (z18l l x_1) /\ some (z18f l) = some (z18f l) /\ some (z18k l) = some (z18k l) /\ some (z18m x) = some (z18u x_1) /\ Heap.set (Heap.set
 (z18a x r21) (z18i x) (IObj.cells (List.take (z18r x) r73 ++ [IV.int .i64 (Prod.fst (iun n15 n68 n69)), IV.int .i64 (Prod.snd (iun n15 n68 n69))] ++ List.drop (z18h x) r73))) (z18g x) (IObj.cells (List.take (z18t x) r74 ++ [IV.bool b72] ++ List.drop (z18j x) r74)) = x_1.2.1
 /\ (z18e id l h x_1) /\ l.length - x_1.1 < l.length - x.1))))))))) (brS (n15 == 21) (needS (z18v l19) (ldIS .i64 c20 0 fun n75 => needS (decide (0 <= n75) && decide (n75 < (↑(z18x l) : Int))) (hgetS (z18a x r21) (z18i x) fun (r76 : List IV)
 => ldIS .i64 r76 ((0 : Nat) + n75.toNat * 2) fun n77 => ldIS .i64 r76 ((0 : Nat) + n75.toNat * 2 + (1 : Nat)) fun n78 => needS (z18v l19) (ldIS .i64 c20 0 fun n79 => needS (decide (0 <= n79) && decide (n79 < (↑(z18x l)
 : Int))) (hgetS (z18a x r21) (z18g x) fun r80 => ldBS r80 ((0 : Nat) + n79.toNat * 1) fun b81 => needS (z18d l x) (hgetS (z18a x r21) (z18i x) fun r82 => needS (Nat.ble (z18h x) r82.length) (needS (z18d l x) (hgetS (Heap.set (z18a x r21) (z18i x) (IObj.cells
 (List.take (z18r x) r82 ++ [IV.int .i64 (Prod.fst (iun n15 n77 n78)), IV.int .i64 (Prod.snd (iun n15 n77 n78))] ++ List.drop (z18h x) r82))) (z18g x) fun r83 => needS (Nat.ble (z18j x) r83.length) (∃ (x_1 : Nat × Heap × Nat × Nat × List (Int × Int)), some (z18s id) =
 some (z18s id) /\ some (z18p l x) = some (z18n l x_1) /\ some (z18q l x) = some (z18l l x_1) /\ some (z18f l) = some (z18f l) /\ some (z18k l) = some (z18k l) /\ some (z18m x) = some (z18u x_1) /\ Heap.set (Heap.set (z18a x r21) (z18i x) (IObj.cells (List.take (z18r x) r82 ++ [IV.int .i64 (Prod.fst
 (iun n15 n77 n78)), IV.int .i64 (Prod.snd (iun n15 n77 n78))] ++ List.drop (z18h x) r82))) (z18g x) (IObj.cells (List.take (z18t x) r83 ++ [IV.bool b81] ++ List.drop (z18j x) r83)) = x_1.2.1 /\ (z18e id l h x_1) /\ l.length - x_1.1 < l.length - x.1)))))))))
 (brS (decide (n15 >= 4)) (brS (decide (n15 <= 19)) (needS (z18v l19) (ldIS .i64 c20 0 fun n84 => needS (z18y l19) (ldIS .i64 c20 1 fun n85 => needS (decide (0 <= n84) && decide (n84 < (↑(z18x l) : Int))) (hgetS (z18a x r21) (z18i x) fun
 (r86 : List IV) => ldIS .i64 r86 ((0 : Nat) + n84.toNat * 2) fun n87 => ldIS .i64 r86 ((0 : Nat) + n84.toNat * 2 + (1 : Nat)) fun n88 => needS (decide (0 <= n85) && decide (n85 < (↑(z18x l) : Int))) (hgetS (z18a x r21) (z18i x) fun (r89 : List
 IV) => ldIS .i64 r89 ((0 : Nat) + n85.toNat * 2) fun n90 => ldIS .i64 r89 ((0 : Nat) + n85.toNat * 2 + (1 : Nat)) fun n91 => ((inR n87 /\ inR n88) /\ inR n90 /\ inR n91) /\ needS (decide (0 <= n84) && decide (n84 < (↑(z18x l) : Int))) (hgetS (z18a
 x r21) (z18g x) fun r92 => ldBS r92 ((0 : Nat) + n84.toNat * 1) fun b93 => brS b93 (needS (z18d l x) (hgetS (z18a x r21) (z18i x) fun r94 => needS (Nat.ble (z18h x) r94.length) (needS (z18d l x) (hgetS (Heap.set (z18a x r21) (z18i x) (IObj.cells (List.take
 (z18r x) r94 ++ (z18w n15 n87 n88 n90 n91) ++ List.drop (z18h x) r94))) (z18g x) fun r95 => needS (Nat.ble (z18j x) r95.length) (∃ (x_1 : Nat × Heap × Nat × Nat × List (Int × Int)), some (z18s id) = some (z18s id) /\ some (z18p l x) = some (z18n l x_1) /\ some (z18q l x) = some (z18l
 l x_1) /\ some (z18f l) = some (z18f l) /\ some (z18k l) = some (z18k l) /\ some (z18m x) = some (z18u x_1) /\ Heap.set (Heap.set (z18a x r21) (z18i x) (IObj.cells (List.take (z18r x) r94 ++ (z18w n15 n87 n88 n90 n91) ++ List.drop (z18h x) r94))) (z18g x) (IObj.cells (List.take (z18t x) r95 ++ [IV.bool true]
 ++ List.drop (z18j x) r95)) = x_1.2.1 /\ (z18e id l h x_1) /\ l.length - x_1.1 < l.length - x.1))))) (needS (decide (0 <= n85) && decide (n85 < (↑(z18x l) : Int))) (hgetS (z18a x r21) (z18g x) fun r96 => ldBS r96 ((0 : Nat) + n85.toNat * (1
 : Nat)) fun b97 => needS (z18d l x) (hgetS (z18a x r21) (z18i x) fun r98 => needS (Nat.ble (z18h x) r98.length) (needS (z18d l x) (hgetS (Heap.set (z18a x r21) (z18i x) (IObj.cells (List.take (z18r x) r98 ++ (z18w n15 n87 n88 n90 n91) ++ List.drop (z18h x) r98))) (z18g x)
 fun r99 => needS (Nat.ble (z18j x) r99.length) (∃ (x_1 : Nat × Heap × Nat × Nat × List (Int × Int)), some (z18s id) = some (z18s id) /\ some (z18p l x) = some (z18n l x_1) /\ some (z18q l x) = some (z18l l x_1) /\ some (z18f l) = some (z18f l) /\ some (z18k l) = some (z18k l) /\ some (z18m
 x) = some (z18u x_1) /\ Heap.set (Heap.set (z18a x r21) (z18i x) (IObj.cells (List.take (z18r x) r98 ++ (z18w n15 n87 n88 n90 n91) ++ List.drop (z18h x) r98))) (z18g x) (IObj.cells (List.take (z18t x) r99 ++ [IV.bool b97] ++ List.drop (z18j x) r99)) = x_1.2.1 /\ (z18e id l h x_1) /\ List.length
 l - x_1.1 < l.length - x.1)))))))))))) (z18b id l h x r21)) (z18b id l h x r21))))))))))))) (Q (.tuple [.hslice (z18i x) 0 (z18x l) 2, IV.hslice (z18g x) 0 (z18x l) 1]) x.2.1))))))) := by kernel_rfl
set_option maxHeartbeats 4000000 in
theorem sIvs : ∀ xs h Q, kIvs xs h Q -> CallW env 18 xs h Q := by
 intro xs h Q hk
 unfold kIvs at hk
 split at hk
 ·rename_i id
  obtain ⟨l, mA, mB, hb, hw, hk⟩ := hk
  refine dF_run (okSetI) (vIvs id l mA mB h Q) ?_
  delta z18a z18b z18c z18d z18e z18f z18g z18h z18i z18j z18k z18l z18m z18n z18o z18p z18q z18r z18s z18t z18u z18v z18w z18x z18y
  have tn : ∀ x : Nat, (x : Int).toNat = x := Int.toNat_natCast
  obtain ⟨hg, hid⟩ := hb
  have hl := hw.ln
  have wb := hw.back
  have him : ∀ n ∈ l, inR n.im := fun n hn => (hw.ok n hn).1.2.1
  have p1 : ((h.push .free).push .free).get id = h.get id := by rw [get_push_lt (show id < (h.push .free).next from Nat.lt_succ_of_lt hid), get_push_lt hid]
  have p2 : ((h.push .free).push .free).get h.next = .free := by rw [get_push_lt (show h.next < (h.push .free).next from Nat.lt_succ_self _), get_push_eq]
  have p3 : ((h.push .free).push .free).get (h.next + 1) = .free := get_push_eq
  have m1 : h.next ≠ id := Nat.ne_of_gt hid
  have m2 : h.next + 1 ≠ id := by omega
  have m3 : h.next ≠ h.next + 1 := by omega
  simp only [tn, Nat.zero_add, Bool.true_and]
  refine hget_intro (p1.trans hg) (ldV_at rfl (needS_intro (by simp; omega) (fre_intro p2 (hget_intro ((get_set_ne m1.symm).trans (p1.trans hg)) (ldV_at rfl (needS_intro (by rw [nbeq_f.2 m1]; rfl) (needS_intro (by simp; omega) (fre_intro ((get_set_ne m3.symm).trans p3) (hget_intro ((get_set_ne m2.symm).trans ((get_set_ne m1.symm).trans (p1.trans hg))) (ldV_at rfl ⟨⟨(0, (((h.push .free).push .free).set h.next (.cells (repl l.length [.int .i64 0, .int .i64 0]))).set (h.next + 1) (.cells (repl l.length [.bool false])), h.next, h.next + 1, List.replicate l.length (0, 0)), (by first | rfl | exact True.intro), (by first | rfl | exact True.intro), (by first | rfl | exact True.intro), (by first | rfl | exact True.intro), (by first | rfl | exact True.intro), (by first | rfl | exact True.intro), (by first | rfl | exact True.intro), ⟨⟨⟨Nat.zero_le _, by simp, fun q hq => absurd hq (Nat.not_lt_zero _)⟩, ⟨?_, m1, m2, m3⟩, ?_, ?_⟩, trivial⟩, trivial⟩, ?_⟩))))))))))
  ·dsimp only
   rw [get_set_ne m2.symm, get_set_ne m1.symm]
   exact p1
  ·dsimp only
   rw [get_set_ne m3, get_set_eq, repl_00]
  ·dsimp only
   rw [get_set_eq, repl_false]
  rintro ⟨i, g, iR, iU, R⟩ _ ⟨hv, _⟩
  obtain ⟨⟨hi, hRl, hok⟩, ⟨hgi, n1, n2, n3⟩, gR, gU⟩ := (show IVh l i g iR iU R id h from hv)
  dsimp only
  refine brS_intro (fun c => ?_) (fun c => ?_)
  case refine_2 =>
   rw [decide_eq_false_iff_not] at c
   obtain rfl : i = l.length := by omega
   exact hk _ _ _ R hRl hok gR
  rw [decide_eq_true_eq] at c
  have hlt : i < l.length := by omega
  have hRi : i < R.length := by omega
  have hwr : some (TV.v (IV.int IntKind.i64 (IntKind.i64.wrap ((i : Int) + 1)))) = some (TV.v (IV.int IntKind.i64 ((i + 1 : Nat) : Int))) := by rw [IntWalk.i64_in _ (by omega)]; rfl
  have hble : Nat.ble (i * 2 + 2) (R.flatMap cR).length = true := by rw [Nat.ble_eq, cRlen]; omega
  have hn := hw.ok _ (List.getElem_mem hlt)
  have hki := wb i _ (List.getElem?_eq_getElem hlt)
  have hnk := hw.nkl hlt
  refine needS_intro (by simp; omega) (ldNd hlt rfl (needS_intro (by simp; omega) (hget_intro gR (needS_intro hble ?_))))
  rw [setR hRi]
  generalize hg1 : Heap.set g iR (IObj.cells ((R.set i (-9223372036854775808, 9223372036854775807)).flatMap cR)) = g1
  have k1 : g1.get id = h.get id := by rw [<- hg1, get_set_ne n1.symm]; exact hgi
  have kR : g1.get iR = .cells ((R.set i (-9223372036854775808, 9223372036854775807)).flatMap cR) := by rw [<- hg1]; exact get_set_eq
  have kU : g1.get iU = .cells ((List.replicate l.length false).map IV.bool) := by rw [<- hg1, get_set_ne n3.symm]; exact gU
  have hs : i < (sortsA l).length := by rw [sortsA_len]; exact hlt
  have hble1 : ∀ r, Nat.ble (i * 2 + 2) ((R.set i r).flatMap cR).length = true := fun r => by rw [Nat.ble_eq, cRlen, List.length_set]; omega
  have hbleU : Nat.ble (i * 1 + 1) ((List.replicate l.length false).map IV.bool).length = true := by rw [Nat.ble_eq]; simp; omega
  have hU : ∀ b : Bool, b = false -> List.take (i * 1) ((List.replicate l.length false).map IV.bool) ++ [IV.bool b] ++ List.drop (i * 1 + 1) ((List.replicate l.length false).map IV.bool) = (List.replicate l.length false).map IV.bool := fun b hb => by rw [hb, Nat.mul_one]; exact setU hlt
  refine hget_intro (k1.trans hg) (ldV_at rfl (needS_intro (by simp; omega) (ldI1 hs (Nat.mul_one _) (brS_intro (fun c1 => ?_) (fun c1 => ?_)))))
  ·exact ⟨(i + 1, g1, iR, iU, R.set i (-9223372036854775808, 9223372036854775807)), (by first | rfl | exact True.intro), (by first | rfl | exact True.intro), (by first | rfl | exact True.intro), (by first | rfl | exact True.intro), (by first | rfl | exact True.intro), hwr, (by first | rfl | exact True.intro), ⟨⟨⟨hlt, by first | (simp [hRl]; done) | exact hR1 | exact hR2l, IvOk.set hRl hlt hok (IvOk.full him i)⟩, ⟨k1, n1, n2, n3⟩, kR, kU⟩, trivial⟩, by dsimp only; omega⟩
  by_cases o1 : l[i].op = 1
  ·rw [o1]
   refine brS_intro (fun _ => needS_intro (by simp; omega) (hget_intro kR (needS_intro (hble1 _) ⟨(i + 1, g1.set iR (.cells (((R.set i (-9223372036854775808, 9223372036854775807)).set i (l[i].im, l[i].im)).flatMap cR)), iR, iU, (R.set i (-9223372036854775808, 9223372036854775807)).set i (l[i].im, l[i].im)), (by first | rfl | exact True.intro), (by first | rfl | exact True.intro), (by first | rfl | exact True.intro), (by first | rfl | exact True.intro), (by first | rfl | exact True.intro), hwr, ?_, ⟨⟨⟨hlt, by first | (simp [hRl]; done) | exact hR1 | exact hR2l, ?_⟩, ⟨?_, n1, n2, n3⟩, ?_, ?_⟩, trivial⟩, by dsimp only; omega⟩))) (fun c2 => absurd c2 (by decide))
   ·dsimp only
    rw [setR (by simp; omega)]
   ·have := IvOk.step wb him hlt hnk hok
    unfold ist at this
    rw [if_pos o1] at this
    rw [List.set_set]
    exact IvOk.set hRl hlt hok this
   ·dsimp only
    rw [get_set_ne n1.symm]; exact k1
   ·exact get_set_eq
   ·dsimp only
    rw [get_set_ne n3.symm]; exact kU
  refine brS_intro (fun c2 => absurd (beq_iff_eq.1 c2) o1) (fun _ => brS_intro (fun c2 => absurd (beq_iff_eq.1 c2) hn.2.2.1) (fun _ => brS_intro (fun c2 => absurd (beq_iff_eq.1 c2) hn.2.2.2.1) (fun _ => ?_)))
  have ek : ∀ j, (hj : j < l[i].ks.length) -> ∃ (q1 : (l[i].ks[j]).toNat < (R.set i (-9223372036854775808, 9223372036854775807)).length) (q2 : (l[i].ks[j]).toNat < l.length) (q3 : 0 <= l[i].ks[j] /\ l[i].ks[j] < l.length), R.getD (l[i].ks.getD j 0).toNat (0, 0) = (R.set i (-9223372036854775808, 9223372036854775807))[(l[i].ks[j]).toNat] := fun j hj => by
   have hb := hki _ (List.getElem_mem hj)
   refine ⟨by simp; omega, by omega, by omega, ?_⟩
   rw [List.getElem_set_ne (by omega), List.getD_eq_getElem?_getD (l := l[i].ks), List.getElem?_eq_getElem hj]
   show R.getD (l[i].ks[j]).toNat (0, 0) = _
   rw [List.getD_eq_getElem?_getD, List.getElem?_eq_getElem (by omega)]
   rfl
  have hstep := IvOk.step wb him hlt hnk hok
  have hR1 : (R.set i ((-9223372036854775808 : Int), (9223372036854775807 : Int))).length = l.length := by simp [hRl]
  generalize hR2 : R.set i ((-9223372036854775808 : Int), (9223372036854775807 : Int)) = R1 at *
  have hRR : ∀ r, R1.set i r = R.set i r := fun r => by rw [<- hR2, List.set_set]
  by_cases o22 : l[i].op = 22
  ·have h3 : 3 <= l[i].ks.length := by unfold nk at hnk; rw [if_neg (by omega), if_neg (by omega), if_pos o22] at hnk; exact hnk
   obtain ⟨a1, a2, a3, a4⟩ := ek 0 (by omega)
   obtain ⟨b1, b2, b3, b4⟩ := ek 1 (by omega)
   obtain ⟨d1, d2, d3, d4⟩ := ek 2 (by omega)
   unfold ist at hstep
   rw [if_neg o1, if_pos o22, a4, b4, d4] at hstep
   refine brS_intro (fun _ => ?_) (fun c2 => by rw [beq_eq_false_iff_ne] at c2; exact absurd o22 c2)
   refine needS_intro (by simp; omega) (ldI1 (by omega) rfl (needS_intro (by simp; omega) (hget_intro kR (ldR a1 rfl (needS_intro (by simp; omega) (ldI1 (i := 1) (by omega) rfl (needS_intro (by simp; omega) (hget_intro kR (ldR b1 rfl (needS_intro (by simp; omega) (ldI1 (i := 2) (by omega) rfl (needS_intro (by simp; omega) (hget_intro kR (ldR d1 rfl (needS_intro (by simp; omega) (hget_intro kR (needS_intro ?_ ?_)))))))))))))))))
   ·rw [Nat.ble_eq, cRlen]; omega
   rw [setR (by omega)]
   generalize hr : R1.set i _ = R2
   have hR2l : R2.length = l.length := by rw [<- hr]; simp [hR1]
   generalize hg2 : Heap.set g1 iR (IObj.cells (R2.flatMap cR)) = g2
   have k12 : g2.get id = h.get id := by rw [<- hg2, get_set_ne n1.symm]; exact k1
   have kR2 : g2.get iR = .cells (R2.flatMap cR) := by rw [<- hg2]; exact get_set_eq
   have kU2 : g2.get iU = .cells ((List.replicate l.length false).map IV.bool) := by rw [<- hg2, get_set_ne n3.symm]; exact kU
   refine needS_intro (by simp; omega) (ldI1 (by omega) rfl (needS_intro (by simp; omega) (hget_intro kU2 (ldB_at (uat a2) (brS_intro (fun c => by cases c) (fun _ => needS_intro (by simp; omega) (ldI1 (i := 1) (by omega) rfl (needS_intro (by simp; omega) (hget_intro kU2 (ldB_at (uat b2) (brS_intro (fun c => by cases c) (fun _ => needS_intro (by simp; omega) (ldI1 (i := 2) (by omega) rfl (needS_intro (by simp; omega) (hget_intro kU2 (ldB_at (uat d2) (needS_intro (by simp; omega) (hget_intro kU2 (needS_intro hbleU ⟨(i + 1, g2.set iU (.cells ((List.replicate l.length false).map IV.bool)), iR, iU, R2), (by first | rfl | exact True.intro), (by first | rfl | exact True.intro), (by first | rfl | exact True.intro), (by first | rfl | exact True.intro), (by first | rfl | exact True.intro), hwr, ?_, ⟨⟨⟨hlt, by first | (simp [hRl]; done) | exact hR1 | exact hR2l, ?_⟩, ⟨?_, n1, n2, n3⟩, ?_, ?_⟩, trivial⟩, by dsimp only; omega⟩)))))))))))))))))))
   ·dsimp only
    rw [hU _ rfl]
   ·rw [<- hr, hRR]
    exact IvOk.set hRl hlt hok hstep
   ·dsimp only
    rw [get_set_ne n2.symm]; exact k12
   ·dsimp only
    rw [get_set_ne n3]; exact kR2
   ·exact get_set_eq
  refine brS_intro (fun c2 => absurd (beq_iff_eq.1 c2) o22) (fun _ => ?_)
  by_cases o20 : l[i].op = 20 \/ l[i].op = 21
  ·have h1 : 1 <= l[i].ks.length := by unfold nk at hnk; rw [if_neg (by omega), if_pos o20] at hnk; exact hnk
   obtain ⟨a1, a2, a3, a4⟩ := ek 0 (by omega)
   unfold ist at hstep
   rw [if_neg o1, if_neg o22, if_pos o20, a4] at hstep
   have go : ∀ A B : Prop, A -> brS (l[i].op == 20) A (brS (l[i].op == 21) A B) := fun A B a => brS_intro (fun _ => a) (fun c2 => brS_intro (fun _ => a) (fun c3 => by rw [beq_eq_false_iff_ne] at c2 c3; rcases o20 with q | q <;> contradiction))
   refine go _ _ ?_
   refine needS_intro (by simp; omega) (ldI1 (by omega) rfl (needS_intro (by simp; omega) (hget_intro kR (ldR a1 rfl (needS_intro (by simp; omega) (ldI1 (by omega) rfl (needS_intro (by simp; omega) (hget_intro kU (ldB_at (uat a2) (needS_intro (by simp; omega) (hget_intro kR (needS_intro ?_ ?_))))))))))))
   ·rw [Nat.ble_eq, cRlen]; omega
   rw [setR (by omega)]
   generalize hr : R1.set i _ = R2
   have hR2l : R2.length = l.length := by rw [<- hr]; simp [hR1]
   generalize hg2 : Heap.set g1 iR (IObj.cells (R2.flatMap cR)) = g2
   have k12 : g2.get id = h.get id := by rw [<- hg2, get_set_ne n1.symm]; exact k1
   have kR2 : g2.get iR = .cells (R2.flatMap cR) := by rw [<- hg2]; exact get_set_eq
   have kU2 : g2.get iU = .cells ((List.replicate l.length false).map IV.bool) := by rw [<- hg2, get_set_ne n3.symm]; exact kU
   refine needS_intro (by simp; omega) (hget_intro kU2 (needS_intro hbleU ⟨(i + 1, g2.set iU (.cells ((List.replicate l.length false).map IV.bool)), iR, iU, R2), (by first | rfl | exact True.intro), (by first | rfl | exact True.intro), (by first | rfl | exact True.intro), (by first | rfl | exact True.intro), (by first | rfl | exact True.intro), hwr, ?_, ⟨⟨⟨hlt, by first | (simp [hRl]; done) | exact hR1 | exact hR2l, ?_⟩, ⟨?_, n1, n2, n3⟩, ?_, ?_⟩, trivial⟩, by dsimp only; omega⟩))
   ·dsimp only
    rw [hU _ rfl]
   ·rw [<- hr, hRR]
    exact IvOk.set hRl hlt hok hstep
   ·dsimp only
    rw [get_set_ne n2.symm]; exact k12
   ·dsimp only
    rw [get_set_ne n3]; exact kR2
   ·exact get_set_eq
  refine brS_intro (fun c2 => absurd (.inl (beq_iff_eq.1 c2)) o20) (fun _ => brS_intro (fun c2 => absurd (.inr (beq_iff_eq.1 c2)) o20) (fun _ => ?_))
  by_cases o4 : 4 <= l[i].op /\ l[i].op <= 19
  ·have h2 : 2 <= l[i].ks.length := by unfold nk at hnk; rw [if_pos o4] at hnk; exact hnk
   obtain ⟨a1, a2, a3, a4⟩ := ek 0 (by omega)
   obtain ⟨b1, b2, b3, b4⟩ := ek 1 (by omega)
   have r0 := (hok (l[i].ks.getD 0 0).toNat (by have := hki _ (List.getElem_mem (show 0 < l[i].ks.length by omega)); rw [List.getD_eq_getElem?_getD, List.getElem?_eq_getElem (show 0 < l[i].ks.length by omega)]; show (l[i].ks[0]).toNat < i; omega)).1
   have r1 := (hok (l[i].ks.getD 1 0).toNat (by have := hki _ (List.getElem_mem (show 1 < l[i].ks.length by omega)); rw [List.getD_eq_getElem?_getD, List.getElem?_eq_getElem (show 1 < l[i].ks.length by omega)]; show (l[i].ks[1]).toNat < i; omega)).1
   unfold ist at hstep
   rw [if_neg o1, if_neg o22, if_neg o20, if_pos o4, a4, b4] at hstep
   rw [a4] at r0
   rw [b4] at r1
   refine brS_intro (fun _ => brS_intro (fun _ => ?_) (fun c2 => absurd o4.2 (of_decide_eq_false c2))) (fun c2 => absurd o4.1 (of_decide_eq_false c2))
   refine needS_intro (by simp; omega) (ldI1 (by omega) rfl (needS_intro (by simp; omega) (ldI1 (i := 1) (by omega) rfl (needS_intro (by simp; omega) (hget_intro kR (ldR a1 rfl (needS_intro (by simp; omega) (hget_intro kR (ldR b1 rfl ⟨⟨r0, r1⟩, needS_intro (by simp; omega) (hget_intro kU (ldB_at (uat a2) (brS_intro (fun c => by cases c) (fun _ => needS_intro (by simp; omega) (hget_intro kU (ldB_at (uat b2) (needS_intro (by simp; omega) (hget_intro kR (needS_intro ?_ ?_)))))))))⟩)))))))))
   ·rw [Nat.ble_eq, cRlen]; omega
   rw [setR (by omega)]
   generalize hr : R1.set i _ = R2
   have hR2l : R2.length = l.length := by rw [<- hr]; simp [hR1]
   generalize hg2 : Heap.set g1 iR (IObj.cells (R2.flatMap cR)) = g2
   have k12 : g2.get id = h.get id := by rw [<- hg2, get_set_ne n1.symm]; exact k1
   have kR2 : g2.get iR = .cells (R2.flatMap cR) := by rw [<- hg2]; exact get_set_eq
   have kU2 : g2.get iU = .cells ((List.replicate l.length false).map IV.bool) := by rw [<- hg2, get_set_ne n3.symm]; exact kU
   refine needS_intro (by simp; omega) (hget_intro kU2 (needS_intro hbleU ⟨(i + 1, g2.set iU (.cells ((List.replicate l.length false).map IV.bool)), iR, iU, R2), (by first | rfl | exact True.intro), (by first | rfl | exact True.intro), (by first | rfl | exact True.intro), (by first | rfl | exact True.intro), (by first | rfl | exact True.intro), hwr, ?_, ⟨⟨⟨hlt, by first | (simp [hRl]; done) | exact hR1 | exact hR2l, ?_⟩, ⟨?_, n1, n2, n3⟩, ?_, ?_⟩, trivial⟩, by dsimp only; omega⟩))
   ·dsimp only
    rw [hU _ rfl]
   ·rw [<- hr, hRR]
    exact IvOk.set hRl hlt hok hstep
   ·dsimp only
    rw [get_set_ne n2.symm]; exact k12
   ·dsimp only
    rw [get_set_ne n3]; exact kR2
   ·exact get_set_eq
  refine brS_intro (fun c3 => brS_intro (fun c4 => absurd ⟨of_decide_eq_true c3, of_decide_eq_true c4⟩ o4) (fun _ => ⟨(i + 1, g1, iR, iU, R1), (by first | rfl | exact True.intro), (by first | rfl | exact True.intro), (by first | rfl | exact True.intro), (by first | rfl | exact True.intro), (by first | rfl | exact True.intro), hwr, (by first | rfl | exact True.intro), ⟨⟨⟨hlt, by first | (simp [hRl]; done) | exact hR1 | exact hR2l, by rw [<- hR2]; exact IvOk.set hRl hlt hok (IvOk.full him i)⟩, ⟨k1, n1, n2, n3⟩, kR, kU⟩, trivial⟩, by dsimp only; omega⟩)) (fun _ => ⟨(i + 1, g1, iR, iU, R1), (by first | rfl | exact True.intro), (by first | rfl | exact True.intro), (by first | rfl | exact True.intro), (by first | rfl | exact True.intro), (by first | rfl | exact True.intro), hwr, (by first | rfl | exact True.intro), ⟨⟨⟨hlt, by first | (simp [hRl]; done) | exact hR1 | exact hR2l, by rw [<- hR2]; exact IvOk.set hRl hlt hok (IvOk.full him i)⟩, ⟨k1, n1, n2, n3⟩, kR, kU⟩, trivial⟩, by dsimp only; omega⟩)
 ·exact hk.elim
def cIvs := addC 18 kIvs cSetI
theorem okIvs : Sound env cIvs := sound_add sIvs (okSetI)
def kIntv (xs : List IV) (h : Heap) (K : IV -> Heap -> Prop) : Prop := match xs with
 | [.vslice none e1 n1 3 c1, .vslice none 0 0 3 []] => ∃ l : List Nd, (n1 = l.length /\ c1 = l.flatMap cN) /\ WG l /\ ∀ R : List (Int × Int), R.length = l.length -> (∀ q, q < l.length -> IvOk l q (R.getD q (0, 0))) -> K (.vslice none 0 l.length 2 (R.flatMap cR)) h
 | _ => False
noncomputable def z5a (l l_1 : List Nd) := [IV.vslice none 0 l.length 3 (List.flatMap cN l), IV.vslice none 0 (List.length (sortsA l_1)) 1 (List.map (IV.int .i64) (sortsA l_1)), IV.nilmap, IV.nilmap]
set_option maxRecDepth 100000 in
theorem vIntv (l : List Nd) (e1 : Nat) (h : Heap) (Q : IV -> Heap -> Prop) : dF (stdS cIvs) env 5 noU noI noI [.vslice none e1 (l).length 3 ((l).flatMap cN), .vslice none 0 0 3 []] h Q = (
 needS (pureL [IV.vslice none 0 l.length 3 (List.flatMap cN l), IV.vslice none 0 0 3 []]) (∃ (l_1 : List Nd), (l.length = l_1.length /\ List.flatMap cN l = List.flatMap cN l_1) /\ WG l_1 /\ ∃ (a b : IV), ∃ (c d : IV), (IObj.cells
 (z5a l l_1) = IObj.cells [a, b, c, d] /\ (0 : Nat) < 0 + (1 : Nat)) /\ ∀ (h2 : Heap) (m : Nat), Heap.get h2 (0 : Nat) = IObj.cells [a, b, IV.map m, d] -> (∀ (j : Nat), j < 0 + (1 : Nat) -> j ≠ 0 -> Heap.get h2 j = Heap.get (Heap.mk (PT.node PT.nil (some (IObj.cells (z5a l l_1))) PT.nil)
 ((0 : Nat) + 1)) j) -> (0 : Nat) + 1 <= Heap.next h2 -> ∃ (l : List Nd), ∃ (mA mB : IV), (Heap.get h2 (0 : Nat) = IObj.cells [IV.vslice none 0 l.length 3 (List.flatMap cN l), IV.vslice none 0 (List.length (sortsA l)) 1 (List.map (IV.int .i64)
 (sortsA l)), mA, mB] /\ 0 < Heap.next h2) /\ WG l /\ ∀ (h2 : Heap) (iR iU : Nat) (R : List (Int × Int)), R.length = l.length -> (∀ (q : Nat), q < l.length -> IvOk l q (List.getD R q ((0 : Int), (0 : Int)))) -> Heap.get h2 iR = IObj.cells (List.flatMap cR R) -> hgetS h2 iR fun (r0 : List
 IV) => needS (true && Nat.ble ((0 : Nat) + l.length * 2) r0.length) (needS (pureL [IV.vslice none 0 l.length 2 (List.take (l.length * 2) r0)]) (Q (.vslice none 0 l.length 2 (List.take (l.length * 2) r0)) h)))) := by kernel_rfl
set_option maxHeartbeats 1000000 in
theorem sIntv : ∀ xs h Q, kIntv xs h Q -> CallW env 5 xs h Q := by
 intro xs h Q hk
 unfold kIntv at hk
 split at hk
 ·rename_i e1 n1 c1
  obtain ⟨l, ⟨rfl, rfl⟩, hw, hk⟩ := hk
  refine dF_run (okIvs) (vIntv l e1 h Q) ?_
  delta z5a
  refine needS_intro (by simp only [pureL, pureB, pureL_cN, Bool.and_true]) ⟨l, ⟨rfl, rfl⟩, hw, _, _, _, _, ⟨rfl, Nat.one_pos⟩, fun h2 m e1 _ e3 => ⟨l, _, _, ⟨e1, Nat.lt_of_lt_of_le Nat.one_pos e3⟩, hw, fun h3 iR iU R e4 e5 e6 => hget_intro e6 (needS_intro ?_ ?_)⟩⟩
  ·rw [Bool.true_and, Nat.ble_eq, Nat.zero_add, <- e4, cRlen]
   exact Nat.le_refl _
  ·have : List.take (l.length * 2) (R.flatMap cR) = R.flatMap cR := List.take_of_length_le (by rw [cRlen, e4]; exact Nat.le_refl _)
   rw [this]
   exact needS_intro (by simp only [pureL, pureB, pureL_cH, Bool.and_true]) (hk R e4 e5)
 ·exact hk.elim
def cIntv := addC 5 kIntv cIvs
theorem okIntv : Sound env cIntv := sound_add sIntv (okIvs)
end Go.Proofs.YtgfllfgdojiioaaGreat
