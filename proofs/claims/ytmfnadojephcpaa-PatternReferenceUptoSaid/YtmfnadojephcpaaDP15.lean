/-
  Patterns: the programs that they are compiled to.
  Conditions: none.
-/
import Derived.Test.YtmfnadojephcpaaJP15
import Derived.Test.YtmfnadojephcpaaQ15
import Derived.KernelRfl
set_option linter.unusedVariables false
set_option linter.unusedSimpArgs false
namespace Go.Proofs.Ytmfnadojephcpaa
open Go.Pv Go.M15
def cpVar (id : Nat) (v op im iv : Int) (ks : List T) (io : Option Nat) (e1 : Nat) (a : Int) (st : St) : Inv' := atX (Heap × Nat) (fun x => [(0, .v (.ptr id 0)), (2, .v (.int .i64 a)), (4, .l 4 0)]) (fun _ => [(4, [.int .i64 v, .int .i64 op, .int .i64 im, .int .i64 iv, .vslice io e1 ks.length 5 (cTs ks)])]) (fun x => x.1)
  (fun x => CS true x.1 id ⟨st.l, st.next, st.vars ++ List.replicate x.2 (-1)⟩ ∧ st.vars.length + x.2 ≤ max st.vars.length v.toNat) (fun x => v.toNat - (st.vars.length + x.2))
def cpC1 (id : Nat) (v op im iv : Int) (ks : List T) (io : Option Nat) (e1 : Nat) (a : Int) (st : St) : Inv' := atX Heap (fun x => [(0, .v (.ptr id 0)), (2, .v (.int .i64 a)), (4, .l 4 0)]) (fun _ => [(4, [.int .i64 v, .int .i64 op, .int .i64 im, .int .i64 iv, .vslice io e1 ks.length 5 (cTs ks)])]) (fun x => x)
  (fun x => CS true x id ⟨st.l, st.next, pad st.vars v⟩) (fun x => 0)
def cpC2 (id : Nat) (v op im iv : Int) (ks : List T) (io : Option Nat) (e1 : Nat) (a : Int) (st : St) : Inv' := atX Heap (fun x => [(0, .v (.ptr id 0)), (4, .l 4 0), (7, .v (.int .i64 st.next))]) (fun _ => [(4, [.int .i64 v, .int .i64 op, .int .i64 im, .int .i64 iv, .vslice io e1 ks.length 5 (cTs ks)])]) (fun x => x)
  (fun x => CS true x id ⟨st.l ++ [⟨1, a, st.next, op, im, iv⟩], st.next + ks.length, st.vars⟩) (fun x => 0)
def cpInv (id : Nat) (v op im iv : Int) (ks : List T) (io : Option Nat) (e1 : Nat) (a : Int) (st : St) : Inv' := atX (Heap × St × Nat) (fun x => [(0, .v (.ptr id 0)), (7, .v (.int .i64 st.next)), (95, .v (.vslice io e1 ks.length 5 (cTs ks))), (96, .v (.int .i64 ks.length)), (97, .v (.int .i64 x.2.2))]) (fun _ => []) (fun x => x.1)
  (fun x => comps (ks.drop x.2.2) st.next x.2.2 x.2.1 = comp (.mk v op im iv ks) a st ∧ CS true x.1 id x.2.1 ∧ x.2.2 ≤ ks.length ∧ (0 ≤ x.2.1.next ∧ x.2.1.next + nums (ks.drop x.2.2) + x.2.2 + 1 ≤ 1000000000 + ks.length ∧ x.2.1.l.length + nums (ks.drop x.2.2) ≤ 1000000000 ∧ x.2.1.vars.length ≤ 6)) (fun x => ks.length - x.2.2)
def kComp (d : Nat) (xs : List IV) (h : Heap) (K : IV → Heap → Prop) : Prop := match xs with
  | [.ptr id 0, .agg [.int .i64 v, .int .i64 op, .int .i64 im, .int .i64 iv, .vslice io e1 n1 5 c1], .int .i64 a] => ∃ (ks : List T) (st : St), (n1 = ks.length ∧ c1 = cTs ks) ∧ CS true h id st ∧ ((T.mk v op im iv ks).num ≤ d ∧ (T.mk v op im iv ks).wf) ∧
       ((0 ≤ a ∧ a ≤ 1000000000 ∧ 0 ≤ st.next ∧ st.next + (T.mk v op im iv ks).num ≤ 1000000000 ∧ st.l.length + (T.mk v op im iv ks).num ≤ 1000000000) ∧ st.vars.length ≤ 6) ∧
       ∀ h2 : Heap, CS true h2 id (comp (.mk v op im iv ks) a st) → K (.tuple []) h2
  | _ => False
set_option maxRecDepth 100000 in
theorem vComp (dd : Nat) (id : Nat) (v op im iv : Int) (ks : List T) (io : Option Nat) (e1 : Nat) (a : Int) (st : St) (h : Heap) (Q : IV → Heap → Prop) : dF (stdS (addC 27 (kComp dd) cRIns)) env 27 noU (icA 3 (cpVar id v op im iv ks io e1 a st) (ic1 13 (cpInv id v op im iv ks io e1 a st))) (icA 5 (cpC1 id v op im iv ks io e1 a st) (ic1 12 (cpC2 id v op im iv ks io e1 a st))) [.ptr id 0, .agg [.int .i64 v, .int .i64 op, .int .i64 im, .int .i64 iv, .vslice io e1 ks.length 5 (cTs ks)], .int .i64 a] h Q = (
  brS (decide (v > (0 : Int)))
 (((∃ (x : Heap × Nat),
 some (TV.v (IV.ptr id (0 : Nat))) = some (TV.v (IV.ptr id (0 : Nat))) ∧
 some (TV.v (IV.int IntKind.i64 a)) = some (TV.v (IV.int IntKind.i64 a)) ∧
 some (TV.l (4 : Nat) (0 : Nat)) = some (TV.l (4 : Nat) (0 : Nat)) ∧
 some [IV.int IntKind.i64 v, IV.int IntKind.i64 op, IV.int IntKind.i64 im, IV.int IntKind.i64 iv, IV.vslice io e1 (List.length ks) (5 : Nat) (cTs ks)] =
 some [IV.int IntKind.i64 v, IV.int IntKind.i64 op, IV.int IntKind.i64 im, IV.int IntKind.i64 iv, IV.vslice io e1 (List.length ks) (5 : Nat) (cTs ks)] ∧
 h = Prod.fst x ∧
 (CS true (Prod.fst x) id (St.mk (St.l st) (St.next st) (St.vars st ++ List.replicate (Prod.snd x) (-1 : Int))) ∧ List.length (St.vars st) + Prod.snd x ≤ max (List.length (St.vars st)) (Int.toNat v)) ∧ True) ∧
 ∀ (x : Heap × Nat) (b : FF),
 CS true (Prod.fst x) id (St.mk (St.l st) (St.next st) (St.vars st ++ List.replicate (Prod.snd x) (-1 : Int))) ∧ List.length (St.vars st) + Prod.snd x ≤ max (List.length (St.vars st)) (Int.toNat v) →
 hgetS (Prod.fst x) id fun (r0 : List IV) =>
 ldNHS (1 : Nat) r0 (2 : Nat)
 (brS (decide ((0 : Int) < v))
 (hgetS (Prod.fst x) id fun (r1 : List IV) =>
 ldNHS (1 : Nat) r1 (2 : Nat)
 (hgetS (Heap.push (Prod.fst x) (IObj.cells [IV.int IntKind.i64 (-1 : Int)])) id fun (r2 : List IV) =>
 needS (Nat.ble (3 : Nat) (List.length r2))
 (∃ (x_1 : Heap × Nat),
 some (TV.v (IV.ptr id (0 : Nat))) = some (TV.v (IV.ptr id (0 : Nat))) ∧
 some (TV.v (IV.int IntKind.i64 a)) = some (TV.v (IV.int IntKind.i64 a)) ∧
 some (TV.l (4 : Nat) (0 : Nat)) = some (TV.l (4 : Nat) (0 : Nat)) ∧
 some [IV.int IntKind.i64 v, IV.int IntKind.i64 op, IV.int IntKind.i64 im, IV.int IntKind.i64 iv, IV.vslice io e1 (List.length ks) (5 : Nat) (cTs ks)] =
 some [IV.int IntKind.i64 v, IV.int IntKind.i64 op, IV.int IntKind.i64 im, IV.int IntKind.i64 iv, IV.vslice io e1 (List.length ks) (5 : Nat) (cTs ks)] ∧
 Heap.set (Heap.push (Prod.fst x) (IObj.cells [IV.int IntKind.i64 (-1 : Int)])) id
 (IObj.cells (List.take (2 : Nat) r2 ++ [IV.hslice (Heap.next (Prod.fst x)) (0 : Nat) (1 : Nat) (1 : Nat)] ++ List.drop (3 : Nat) r2)) =
 Prod.fst x_1 ∧
 (CS true (Prod.fst x_1) id (St.mk (St.l st) (St.next st) (St.vars st ++ List.replicate (Prod.snd x_1) (-1 : Int))) ∧
 List.length (St.vars st) + Prod.snd x_1 ≤ max (List.length (St.vars st)) (Int.toNat v)) ∧
 Int.toNat v - (List.length (St.vars st) + Prod.snd x_1) < Int.toNat v - (List.length (St.vars st) + Prod.snd x)))
 fun (i3 o4 l5 : Nat) =>
 hgetS (Prod.fst x) i3 fun (r6 : List IV) =>
 needS (Nat.beq o4 (0 : Nat) && (Nat.ble (l5 * (1 : Nat)) (List.length r6) && Nat.ble ((l5 + (1 : Nat)) * (8 : Nat)) (140737488355328 : Nat)))
 (hgetS (Heap.push (Heap.set (Prod.fst x) i3 IObj.dead) (IObj.cells (List.take (l5 * (1 : Nat)) r6 ++ [IV.int IntKind.i64 (-1 : Int)]))) id fun (r7 : List IV) =>
 needS (Nat.ble (3 : Nat) (List.length r7))
 (∃ (x_1 : Heap × Nat),
 some (TV.v (IV.ptr id (0 : Nat))) = some (TV.v (IV.ptr id (0 : Nat))) ∧
 some (TV.v (IV.int IntKind.i64 a)) = some (TV.v (IV.int IntKind.i64 a)) ∧
 some (TV.l (4 : Nat) (0 : Nat)) = some (TV.l (4 : Nat) (0 : Nat)) ∧
 some [IV.int IntKind.i64 v, IV.int IntKind.i64 op, IV.int IntKind.i64 im, IV.int IntKind.i64 iv, IV.vslice io e1 (List.length ks) (5 : Nat) (cTs ks)] =
 some [IV.int IntKind.i64 v, IV.int IntKind.i64 op, IV.int IntKind.i64 im, IV.int IntKind.i64 iv, IV.vslice io e1 (List.length ks) (5 : Nat) (cTs ks)] ∧
 Heap.set (Heap.push (Heap.set (Prod.fst x) i3 IObj.dead) (IObj.cells (List.take (l5 * (1 : Nat)) r6 ++ [IV.int IntKind.i64 (-1 : Int)]))) id
 (IObj.cells (List.take (2 : Nat) r7 ++ [IV.hslice (Heap.next (Prod.fst x)) (0 : Nat) (l5 + (1 : Nat)) (1 : Nat)] ++ List.drop (3 : Nat) r7)) =
 Prod.fst x_1 ∧
 (CS true (Prod.fst x_1) id (St.mk (St.l st) (St.next st) (St.vars st ++ List.replicate (Prod.snd x_1) (-1 : Int))) ∧
 List.length (St.vars st) + Prod.snd x_1 ≤ max (List.length (St.vars st)) (Int.toNat v)) ∧
 Int.toNat v - (List.length (St.vars st) + Prod.snd x_1) < Int.toNat v - (List.length (St.vars st) + Prod.snd x))))
 (∃ (x_1 : Heap),
 some (TV.v (IV.ptr id (0 : Nat))) = some (TV.v (IV.ptr id (0 : Nat))) ∧
 some (TV.v (IV.int IntKind.i64 a)) = some (TV.v (IV.int IntKind.i64 a)) ∧
 some (TV.l (4 : Nat) (0 : Nat)) = some (TV.l (4 : Nat) (0 : Nat)) ∧
 some [IV.int IntKind.i64 v, IV.int IntKind.i64 op, IV.int IntKind.i64 im, IV.int IntKind.i64 iv, IV.vslice io e1 (List.length ks) (5 : Nat) (cTs ks)] =
 some [IV.int IntKind.i64 v, IV.int IntKind.i64 op, IV.int IntKind.i64 im, IV.int IntKind.i64 iv, IV.vslice io e1 (List.length ks) (5 : Nat) (cTs ks)] ∧
 Prod.fst x = x_1 ∧ (id < Heap.next x_1 ∧ ∃ (L : IV), ∃ (V : IV), Heap.get x_1 id = IObj.cells [L, IV.int IntKind.i64 (St.next st), V] ∧ RL x_1 L (St.l st) ∧ RV x_1 id V (pad (St.vars st) v)) ∧ True))
 fun (i8 o9 l10 : Nat) =>
 brS (decide ((↑l10 : Int) < v))
 (hgetS (Prod.fst x) id fun (r11 : List IV) =>
 ldNHS (1 : Nat) r11 (2 : Nat)
 (hgetS (Heap.push (Prod.fst x) (IObj.cells [IV.int IntKind.i64 (-1 : Int)])) id fun (r12 : List IV) =>
 needS (Nat.ble (3 : Nat) (List.length r12))
 (∃ (x_1 : Heap × Nat),
 some (TV.v (IV.ptr id (0 : Nat))) = some (TV.v (IV.ptr id (0 : Nat))) ∧
 some (TV.v (IV.int IntKind.i64 a)) = some (TV.v (IV.int IntKind.i64 a)) ∧
 some (TV.l (4 : Nat) (0 : Nat)) = some (TV.l (4 : Nat) (0 : Nat)) ∧
 some [IV.int IntKind.i64 v, IV.int IntKind.i64 op, IV.int IntKind.i64 im, IV.int IntKind.i64 iv, IV.vslice io e1 (List.length ks) (5 : Nat) (cTs ks)] =
 some [IV.int IntKind.i64 v, IV.int IntKind.i64 op, IV.int IntKind.i64 im, IV.int IntKind.i64 iv, IV.vslice io e1 (List.length ks) (5 : Nat) (cTs ks)] ∧
 Heap.set (Heap.push (Prod.fst x) (IObj.cells [IV.int IntKind.i64 (-1 : Int)])) id
 (IObj.cells (List.take (2 : Nat) r12 ++ [IV.hslice (Heap.next (Prod.fst x)) (0 : Nat) (1 : Nat) (1 : Nat)] ++ List.drop (3 : Nat) r12)) =
 Prod.fst x_1 ∧
 (CS true (Prod.fst x_1) id (St.mk (St.l st) (St.next st) (St.vars st ++ List.replicate (Prod.snd x_1) (-1 : Int))) ∧
 List.length (St.vars st) + Prod.snd x_1 ≤ max (List.length (St.vars st)) (Int.toNat v)) ∧
 Int.toNat v - (List.length (St.vars st) + Prod.snd x_1) < Int.toNat v - (List.length (St.vars st) + Prod.snd x)))
 fun (i13 o14 l15 : Nat) =>
 hgetS (Prod.fst x) i13 fun (r16 : List IV) =>
 needS (Nat.beq o14 (0 : Nat) && (Nat.ble (l15 * (1 : Nat)) (List.length r16) && Nat.ble ((l15 + (1 : Nat)) * (8 : Nat)) (140737488355328 : Nat)))
 (hgetS (Heap.push (Heap.set (Prod.fst x) i13 IObj.dead) (IObj.cells (List.take (l15 * (1 : Nat)) r16 ++ [IV.int IntKind.i64 (-1 : Int)]))) id fun (r17 : List IV) =>
 needS (Nat.ble (3 : Nat) (List.length r17))
 (∃ (x_1 : Heap × Nat),
 some (TV.v (IV.ptr id (0 : Nat))) = some (TV.v (IV.ptr id (0 : Nat))) ∧
 some (TV.v (IV.int IntKind.i64 a)) = some (TV.v (IV.int IntKind.i64 a)) ∧
 some (TV.l (4 : Nat) (0 : Nat)) = some (TV.l (4 : Nat) (0 : Nat)) ∧
 some [IV.int IntKind.i64 v, IV.int IntKind.i64 op, IV.int IntKind.i64 im, IV.int IntKind.i64 iv, IV.vslice io e1 (List.length ks) (5 : Nat) (cTs ks)] =
 some [IV.int IntKind.i64 v, IV.int IntKind.i64 op, IV.int IntKind.i64 im, IV.int IntKind.i64 iv, IV.vslice io e1 (List.length ks) (5 : Nat) (cTs ks)] ∧
 Heap.set (Heap.push (Heap.set (Prod.fst x) i13 IObj.dead) (IObj.cells (List.take (l15 * (1 : Nat)) r16 ++ [IV.int IntKind.i64 (-1 : Int)]))) id
 (IObj.cells (List.take (2 : Nat) r17 ++ [IV.hslice (Heap.next (Prod.fst x)) (0 : Nat) (l15 + (1 : Nat)) (1 : Nat)] ++ List.drop (3 : Nat) r17)) =
 Prod.fst x_1 ∧
 (CS true (Prod.fst x_1) id (St.mk (St.l st) (St.next st) (St.vars st ++ List.replicate (Prod.snd x_1) (-1 : Int))) ∧
 List.length (St.vars st) + Prod.snd x_1 ≤ max (List.length (St.vars st)) (Int.toNat v)) ∧
 Int.toNat v - (List.length (St.vars st) + Prod.snd x_1) < Int.toNat v - (List.length (St.vars st) + Prod.snd x))))
 (∃ (x_1 : Heap),
 some (TV.v (IV.ptr id (0 : Nat))) = some (TV.v (IV.ptr id (0 : Nat))) ∧
 some (TV.v (IV.int IntKind.i64 a)) = some (TV.v (IV.int IntKind.i64 a)) ∧
 some (TV.l (4 : Nat) (0 : Nat)) = some (TV.l (4 : Nat) (0 : Nat)) ∧
 some [IV.int IntKind.i64 v, IV.int IntKind.i64 op, IV.int IntKind.i64 im, IV.int IntKind.i64 iv, IV.vslice io e1 (List.length ks) (5 : Nat) (cTs ks)] =
 some [IV.int IntKind.i64 v, IV.int IntKind.i64 op, IV.int IntKind.i64 im, IV.int IntKind.i64 iv, IV.vslice io e1 (List.length ks) (5 : Nat) (cTs ks)] ∧
 Prod.fst x = x_1 ∧ (id < Heap.next x_1 ∧ ∃ (L : IV), ∃ (V : IV), Heap.get x_1 id = IObj.cells [L, IV.int IntKind.i64 (St.next st), V] ∧ RL x_1 L (St.l st) ∧ RV x_1 id V (pad (St.vars st) v)) ∧ True)) ∧
 ∀ (x : Heap) (b : FF),
 CS true x id (St.mk (St.l st) (St.next st) (pad (St.vars st) v)) →
 hgetS x id fun (r18 : List IV) =>
 ldNHS (1 : Nat) r18 (2 : Nat) False fun (i19 o20 l21 : Nat) =>
 needS (decide ((0 : Int) ≤ IntKind.wrap IntKind.i64 (v - (1 : Int))) && decide (IntKind.wrap IntKind.i64 (v - (1 : Int)) < (↑l21 : Int)))
 (hgetS x i19 fun (r22 : List IV) =>
 ldIS IntKind.i64 r22 (o20 + Int.toNat (IntKind.wrap IntKind.i64 (v - (1 : Int))) * (1 : Nat)) fun (n23 : Int) =>
 brS (decide (n23 ≥ (0 : Int)))
 (hgetS x id fun (r24 : List IV) =>
 ldNVS (6 : Nat) r24 (0 : Nat)
 (hgetS (Heap.push x (IObj.tip (6 : Nat))) id fun (r25 : List IV) =>
 needS (Nat.ble (1 : Nat) (List.length r25))
 (Q (IV.tuple [])
 (Heap.set (Heap.push x (IObj.tip (6 : Nat))) id
 (IObj.cells
 (IV.vslice (some (Heap.next x)) (6 : Nat) (1 : Nat) (6 : Nat)
 [IV.int IntKind.i64 (2 : Int), IV.int IntKind.i64 a, IV.int IntKind.i64 n23, IV.int IntKind.i64 (0 : Int), IV.int IntKind.i64 (0 : Int), IV.int IntKind.i64 (0 : Int)] ::
 List.drop (1 : Nat) r25)))))
 fun (i26 e27 l28 : Nat) (c29 : List IV) =>
 tipS x i26 fun (m30 : Nat) =>
 needS (Nat.beq m30 e27 && Nat.ble ((l28 + (1 : Nat)) * (48 : Nat)) (140737488355328 : Nat))
 (hgetS (Heap.set x i26 (IObj.tip (e27 + (6 : Nat)))) id fun (r31 : List IV) =>
 needS (Nat.ble (1 : Nat) (List.length r31))
 (Q (IV.tuple [])
 (Heap.set (Heap.set x i26 (IObj.tip (e27 + (6 : Nat)))) id
 (IObj.cells
 (IV.vslice (some i26) (e27 + (6 : Nat)) (l28 + (1 : Nat)) (6 : Nat)
 (c29 ++ [IV.int IntKind.i64 (2 : Int), IV.int IntKind.i64 a, IV.int IntKind.i64 n23, IV.int IntKind.i64 (0 : Int), IV.int IntKind.i64 (0 : Int), IV.int IntKind.i64 (0 : Int)]) ::
 List.drop (1 : Nat) r31))))))
 (hgetS x id fun (r32 : List IV) =>
 ldNHS (1 : Nat) r32 (2 : Nat) False fun (i33 o34 l35 : Nat) =>
 needS (decide ((0 : Int) ≤ IntKind.wrap IntKind.i64 (v - (1 : Int))) && decide (IntKind.wrap IntKind.i64 (v - (1 : Int)) < (↑l35 : Int)))
 (hgetS x i33 fun (r36 : List IV) =>
 needS (Nat.ble (o34 + Int.toNat (IntKind.wrap IntKind.i64 (v - (1 : Int))) * (1 : Nat) + (1 : Nat)) (List.length r36))
 (Q (IV.tuple [])
 (Heap.set x i33
 (IObj.cells
 (List.take (o34 + Int.toNat (IntKind.wrap IntKind.i64 (v - (1 : Int))) * (1 : Nat)) r36 ++ [IV.int IntKind.i64 a] ++
 List.drop (o34 + Int.toNat (IntKind.wrap IntKind.i64 (v - (1 : Int))) * (1 : Nat) + (1 : Nat)) r36))))))))
 (hgetS h id fun (r37 : List IV) =>
 ldIS IntKind.i64 r37 (1 : Nat) fun (n38 : Int) =>
 hgetS h id fun (r39 : List IV) =>
 ldIS IntKind.i64 r39 (1 : Nat) fun (n40 : Int) =>
 hgetS h id fun (r41 : List IV) =>
 needS (Nat.ble (2 : Nat) (List.length r41))
 ((hgetS (Heap.set h id (IObj.cells (List.take (1 : Nat) r41 ++ [IV.int IntKind.i64 (IntKind.wrap IntKind.i64 (n40 + (↑(List.length ks) : Int)))] ++ List.drop (2 : Nat) r41))) id fun (r42 : List IV) =>
 ldNVS (6 : Nat) r42 (0 : Nat)
 (hgetS (Heap.push (Heap.set h id (IObj.cells (List.take (1 : Nat) r41 ++ [IV.int IntKind.i64 (IntKind.wrap IntKind.i64 (n40 + (↑(List.length ks) : Int)))] ++ List.drop (2 : Nat) r41))) (IObj.tip (6 : Nat))) id
 fun (r43 : List IV) =>
 needS (Nat.ble (1 : Nat) (List.length r43))
 (∃ (x : Heap),
 some (TV.v (IV.ptr id (0 : Nat))) = some (TV.v (IV.ptr id (0 : Nat))) ∧
 some (TV.l (4 : Nat) (0 : Nat)) = some (TV.l (4 : Nat) (0 : Nat)) ∧
 some (TV.v (IV.int IntKind.i64 n38)) = some (TV.v (IV.int IntKind.i64 (St.next st))) ∧
 some [IV.int IntKind.i64 v, IV.int IntKind.i64 op, IV.int IntKind.i64 im, IV.int IntKind.i64 iv, IV.vslice io e1 (List.length ks) (5 : Nat) (cTs ks)] =
 some [IV.int IntKind.i64 v, IV.int IntKind.i64 op, IV.int IntKind.i64 im, IV.int IntKind.i64 iv, IV.vslice io e1 (List.length ks) (5 : Nat) (cTs ks)] ∧
 Heap.set
 (Heap.push (Heap.set h id (IObj.cells (List.take (1 : Nat) r41 ++ [IV.int IntKind.i64 (IntKind.wrap IntKind.i64 (n40 + (↑(List.length ks) : Int)))] ++ List.drop (2 : Nat) r41))) (IObj.tip (6 : Nat)))
 id
 (IObj.cells
 (IV.vslice (some (Heap.next h)) (6 : Nat) (1 : Nat) (6 : Nat)
 [IV.int IntKind.i64 (1 : Int), IV.int IntKind.i64 a, IV.int IntKind.i64 n38, IV.int IntKind.i64 op, IV.int IntKind.i64 im, IV.int IntKind.i64 iv] ::
 List.drop (1 : Nat) r43)) =
 x ∧
 (id < Heap.next x ∧
 ∃ (L : IV),
 ∃ (V : IV),
 Heap.get x id = IObj.cells [L, IV.int IntKind.i64 (St.next st + (↑(List.length ks) : Int)), V] ∧ RL x L (St.l st ++ [Ins.mk (1 : Int) a (St.next st) op im iv]) ∧ RV x id V (St.vars st)) ∧
 True))
 fun (i44 e45 l46 : Nat) (c47 : List IV) =>
 tipS (Heap.set h id (IObj.cells (List.take (1 : Nat) r41 ++ [IV.int IntKind.i64 (IntKind.wrap IntKind.i64 (n40 + (↑(List.length ks) : Int)))] ++ List.drop (2 : Nat) r41))) i44 fun (m48 : Nat) =>
 needS (Nat.beq m48 e45 && Nat.ble ((l46 + (1 : Nat)) * (48 : Nat)) (140737488355328 : Nat))
 (hgetS
 (Heap.set (Heap.set h id (IObj.cells (List.take (1 : Nat) r41 ++ [IV.int IntKind.i64 (IntKind.wrap IntKind.i64 (n40 + (↑(List.length ks) : Int)))] ++ List.drop (2 : Nat) r41))) i44 (IObj.tip (e45 + (6 : Nat)))) id
 fun (r49 : List IV) =>
 needS (Nat.ble (1 : Nat) (List.length r49))
 (∃ (x : Heap),
 some (TV.v (IV.ptr id (0 : Nat))) = some (TV.v (IV.ptr id (0 : Nat))) ∧
 some (TV.l (4 : Nat) (0 : Nat)) = some (TV.l (4 : Nat) (0 : Nat)) ∧
 some (TV.v (IV.int IntKind.i64 n38)) = some (TV.v (IV.int IntKind.i64 (St.next st))) ∧
 some [IV.int IntKind.i64 v, IV.int IntKind.i64 op, IV.int IntKind.i64 im, IV.int IntKind.i64 iv, IV.vslice io e1 (List.length ks) (5 : Nat) (cTs ks)] =
 some [IV.int IntKind.i64 v, IV.int IntKind.i64 op, IV.int IntKind.i64 im, IV.int IntKind.i64 iv, IV.vslice io e1 (List.length ks) (5 : Nat) (cTs ks)] ∧
 Heap.set
 (Heap.set (Heap.set h id (IObj.cells (List.take (1 : Nat) r41 ++ [IV.int IntKind.i64 (IntKind.wrap IntKind.i64 (n40 + (↑(List.length ks) : Int)))] ++ List.drop (2 : Nat) r41))) i44
 (IObj.tip (e45 + (6 : Nat))))
 id
 (IObj.cells
 (IV.vslice (some i44) (e45 + (6 : Nat)) (l46 + (1 : Nat)) (6 : Nat)
 (c47 ++ [IV.int IntKind.i64 (1 : Int), IV.int IntKind.i64 a, IV.int IntKind.i64 n38, IV.int IntKind.i64 op, IV.int IntKind.i64 im, IV.int IntKind.i64 iv]) ::
 List.drop (1 : Nat) r49)) =
 x ∧
 (id < Heap.next x ∧
 ∃ (L : IV),
 ∃ (V : IV),
 Heap.get x id = IObj.cells [L, IV.int IntKind.i64 (St.next st + (↑(List.length ks) : Int)), V] ∧ RL x L (St.l st ++ [Ins.mk (1 : Int) a (St.next st) op im iv]) ∧ RV x id V (St.vars st)) ∧
 True))) ∧
 ∀ (x : Heap) (b : FF),
 CS true x id (St.mk (St.l st ++ [Ins.mk (1 : Int) a (St.next st) op im iv]) (St.next st + (↑(List.length ks) : Int)) (St.vars st)) →
 (∃ (x_1 : Heap × St × Nat),
 some (TV.v (IV.ptr id (0 : Nat))) = some (TV.v (IV.ptr id (0 : Nat))) ∧
 some (TV.v (IV.int IntKind.i64 (St.next st))) = some (TV.v (IV.int IntKind.i64 (St.next st))) ∧
 some (TV.v (IV.vslice io e1 (List.length ks) (5 : Nat) (cTs ks))) = some (TV.v (IV.vslice io e1 (List.length ks) (5 : Nat) (cTs ks))) ∧
 some (TV.v (IV.int IntKind.i64 (↑(List.length ks) : Int))) = some (TV.v (IV.int IntKind.i64 (↑(List.length ks) : Int))) ∧
 some (TV.v (IV.int IntKind.i64 (0 : Int))) = some (TV.v (IV.int IntKind.i64 (↑(Prod.snd (Prod.snd x_1)) : Int))) ∧
 x = Prod.fst x_1 ∧
 (comps (List.drop (Prod.snd (Prod.snd x_1)) ks) (St.next st) (Prod.snd (Prod.snd x_1)) (Prod.fst (Prod.snd x_1)) = comp (T.mk v op im iv ks) a st ∧
 CS true (Prod.fst x_1) id (Prod.fst (Prod.snd x_1)) ∧
 Prod.snd (Prod.snd x_1) ≤ List.length ks ∧
 (0 : Int) ≤ St.next (Prod.fst (Prod.snd x_1)) ∧
 St.next (Prod.fst (Prod.snd x_1)) + (↑(nums (List.drop (Prod.snd (Prod.snd x_1)) ks)) : Int) + (↑(Prod.snd (Prod.snd x_1)) : Int) + (1 : Int) ≤ (1000000000 : Int) + (↑(List.length ks) : Int) ∧
 List.length (St.l (Prod.fst (Prod.snd x_1))) + nums (List.drop (Prod.snd (Prod.snd x_1)) ks) ≤ (1000000000 : Nat) ∧ List.length (St.vars (Prod.fst (Prod.snd x_1))) ≤ (6 : Nat)) ∧
 True) ∧
 ∀ (x : Heap × St × Nat) (b : FF),
 comps (List.drop (Prod.snd (Prod.snd x)) ks) (St.next st) (Prod.snd (Prod.snd x)) (Prod.fst (Prod.snd x)) = comp (T.mk v op im iv ks) a st ∧
 CS true (Prod.fst x) id (Prod.fst (Prod.snd x)) ∧
 Prod.snd (Prod.snd x) ≤ List.length ks ∧
 (0 : Int) ≤ St.next (Prod.fst (Prod.snd x)) ∧
 St.next (Prod.fst (Prod.snd x)) + (↑(nums (List.drop (Prod.snd (Prod.snd x)) ks)) : Int) + (↑(Prod.snd (Prod.snd x)) : Int) + (1 : Int) ≤ (1000000000 : Int) + (↑(List.length ks) : Int) ∧
 List.length (St.l (Prod.fst (Prod.snd x))) + nums (List.drop (Prod.snd (Prod.snd x)) ks) ≤ (1000000000 : Nat) ∧ List.length (St.vars (Prod.fst (Prod.snd x))) ≤ (6 : Nat) →
 brS (decide ((↑(Prod.snd (Prod.snd x)) : Int) < (↑(List.length ks) : Int)))
 (needS (decide ((0 : Int) ≤ (↑(Prod.snd (Prod.snd x)) : Int)) && decide ((↑(Prod.snd (Prod.snd x)) : Int) < (↑(List.length ks) : Int)))
 (ldIS IntKind.i64 (cTs ks) (Int.toNat (↑(Prod.snd (Prod.snd x)) : Int) * (5 : Nat)) fun (n50 : Int) =>
 ldIS IntKind.i64 (cTs ks) (Int.toNat (↑(Prod.snd (Prod.snd x)) : Int) * (5 : Nat) + (1 : Nat)) fun (n51 : Int) =>
 ldIS IntKind.i64 (cTs ks) (Int.toNat (↑(Prod.snd (Prod.snd x)) : Int) * (5 : Nat) + (1 : Nat) + (1 : Nat)) fun (n52 : Int) =>
 ldIS IntKind.i64 (cTs ks) (Int.toNat (↑(Prod.snd (Prod.snd x)) : Int) * (5 : Nat) + (1 : Nat) + (1 : Nat) + (1 : Nat)) fun (n53 : Int) =>
 ldVS (5 : Nat) (cTs ks) (Int.toNat (↑(Prod.snd (Prod.snd x)) : Int) * (5 : Nat) + (1 : Nat) + (1 : Nat) + (1 : Nat) + (1 : Nat)) fun (i54 : Option Nat) (e55 l56 : Nat) (c57 : List IV) =>
 ∃ (ks_1 : List T),
 ∃ (st_1 : St),
 (l56 = List.length ks_1 ∧ c57 = cTs ks_1) ∧
 CS true (Prod.fst x) id st_1 ∧
 (T.num (T.mk n50 n51 n52 n53 ks_1) ≤ dd ∧ T.wf (T.mk n50 n51 n52 n53 ks_1)) ∧
 (((0 : Int) ≤ IntKind.wrap IntKind.i64 (St.next st + (↑(Prod.snd (Prod.snd x)) : Int)) ∧
 IntKind.wrap IntKind.i64 (St.next st + (↑(Prod.snd (Prod.snd x)) : Int)) ≤ (1000000000 : Int) ∧
 (0 : Int) ≤ St.next st_1 ∧
 St.next st_1 + (↑(T.num (T.mk n50 n51 n52 n53 ks_1)) : Int) ≤ (1000000000 : Int) ∧ List.length (St.l st_1) + T.num (T.mk n50 n51 n52 n53 ks_1) ≤ (1000000000 : Nat)) ∧
 List.length (St.vars st_1) ≤ (6 : Nat)) ∧
 ∀ (h2 : Heap),
 CS true h2 id (comp (T.mk n50 n51 n52 n53 ks_1) (IntKind.wrap IntKind.i64 (St.next st + (↑(Prod.snd (Prod.snd x)) : Int))) st_1) →
 ∃ (x_1 : Heap × St × Nat),
 some (TV.v (IV.ptr id (0 : Nat))) = some (TV.v (IV.ptr id (0 : Nat))) ∧
 some (TV.v (IV.int IntKind.i64 (St.next st))) = some (TV.v (IV.int IntKind.i64 (St.next st))) ∧
 some (TV.v (IV.vslice io e1 (List.length ks) (5 : Nat) (cTs ks))) = some (TV.v (IV.vslice io e1 (List.length ks) (5 : Nat) (cTs ks))) ∧
 some (TV.v (IV.int IntKind.i64 (↑(List.length ks) : Int))) = some (TV.v (IV.int IntKind.i64 (↑(List.length ks) : Int))) ∧
 some (TV.v (IV.int IntKind.i64 (IntKind.wrap IntKind.i64 ((↑(Prod.snd (Prod.snd x)) : Int) + (1 : Int))))) =
 some (TV.v (IV.int IntKind.i64 (↑(Prod.snd (Prod.snd x_1)) : Int))) ∧
 h2 = Prod.fst x_1 ∧
 (comps (List.drop (Prod.snd (Prod.snd x_1)) ks) (St.next st) (Prod.snd (Prod.snd x_1)) (Prod.fst (Prod.snd x_1)) = comp (T.mk v op im iv ks) a st ∧
 CS true (Prod.fst x_1) id (Prod.fst (Prod.snd x_1)) ∧
 Prod.snd (Prod.snd x_1) ≤ List.length ks ∧
 (0 : Int) ≤ St.next (Prod.fst (Prod.snd x_1)) ∧
 St.next (Prod.fst (Prod.snd x_1)) + (↑(nums (List.drop (Prod.snd (Prod.snd x_1)) ks)) : Int) + (↑(Prod.snd (Prod.snd x_1)) : Int) + (1 : Int) ≤
 (1000000000 : Int) + (↑(List.length ks) : Int) ∧
 List.length (St.l (Prod.fst (Prod.snd x_1))) + nums (List.drop (Prod.snd (Prod.snd x_1)) ks) ≤ (1000000000 : Nat) ∧
 List.length (St.vars (Prod.fst (Prod.snd x_1))) ≤ (6 : Nat)) ∧
 List.length ks - Prod.snd (Prod.snd x_1) < List.length ks - Prod.snd (Prod.snd x)))
 (Q (IV.tuple []) (Prod.fst x))))) := by kernel_rfl
set_option maxHeartbeats 2000000 in
theorem rComp : ∀ d xs h Q, kComp d xs h Q → CallW env 27 xs h Q := by
  intro d
  induction d with
  | zero =>
    intro xs h Q hk
    unfold kComp at hk
    split at hk
    · rename_i id v op im iv io e1 n1 c1 a
      obtain ⟨ks, st, ⟨rfl, rfl⟩, hcs, hd, hb, hk⟩ := hk
      have := num_pos (T.mk v op im iv ks)
      omega
    · exact hk.elim
  | succ dd ih =>
    intro xs h Q hk
    unfold kComp at hk
    split at hk
    · rename_i id v op im iv io e1 n1 c1 a
      obtain ⟨ks, st, ⟨rfl, rfl⟩, hcs, hd, hb, hk⟩ := hk
      refine dF_run (sound_add ih (okRIns)) (vComp dd id v op im iv ks io e1 a st h Q) ?_
      have vb : Q (.tuple []) = Q (.tuple []) := rfl
      obtain ⟨⟨hn1, hwf⟩, ⟨hb1, hb2, hb3, hb4, hb5⟩, hb6⟩ := And.intro hd hb
      have tn : ∀ x : Nat, (x : Int).toNat = x := Int.toNat_natCast
      have eta : ∀ t : T, T.mk t.v t.op t.im t.iv t.ks = t := fun t => by cases t; rfl
      have hnum : (T.mk v op im iv ks).num = nums ks + 1 := rfl
      have hlen := len_nums ks
      rw [hnum] at hn1 hb4 hb5
      refine brS_intro (fun cv => ?_) (fun cv => ?_)
      · rw [decide_eq_true_eq] at cv
        obtain ⟨h1, h2, rfl⟩ : 1 ≤ v ∧ v ≤ 6 ∧ ks = [] := by
          rcases hwf with ⟨q, _⟩ | q
          · omega
          · exact q
        refine ⟨⟨⟨(h, 0), ?_⟩, ?_⟩, ?_⟩
        · repeat (refine And.intro (by first | rfl | exact True.intro) ?_)
          refine ⟨⟨by simpa using hcs, by simp only; omega⟩, trivial⟩
        · rintro ⟨g, k⟩ _ ⟨hc, hk2⟩
          dsimp only at hc hk2 ⊢
          have step : ∀ (g' : Heap), (st.vars ++ List.replicate k (-1)).length < v.toNat → CS true g' id ⟨st.l, st.next, st.vars ++ List.replicate (k + 1) (-1)⟩ → (CS true g' id ⟨st.l, st.next, st.vars ++ List.replicate (k + 1) (-1)⟩ ∧ st.vars.length + (k + 1) ≤ max st.vars.length v.toNat) ∧ v.toNat - (st.vars.length + (k + 1)) < v.toNat - (st.vars.length + k) := by
            intro g' hl hc'
            simp only [List.length_append, List.length_replicate] at hl
            exact ⟨⟨hc', by omega⟩, by omega⟩
          have done : ¬ (st.vars ++ List.replicate k (-1)).length < v.toNat → CS true g id ⟨st.l, st.next, pad st.vars v⟩ := by
            intro hl
            simp only [List.length_append, List.length_replicate] at hl
            have : k = v.toNat - st.vars.length := by omega
            unfold pad
            rw [← this]
            exact hc
          rcases hc.getV with ⟨hv0, r, e1, e2⟩ | ⟨r, j, e1, e2, e3, e4, e5⟩
          · simp only at hv0
            have hl0 : (st.vars ++ List.replicate k (-1)).length < v.toNat := by rw [hv0]; simp; omega
            refine hget_intro e1 (ldNH_nil e2 (brS_intro (fun _ => ?_) (fun c => absurd (of_decide_eq_false c) (by omega))))
            obtain ⟨r2, q1, q2, q3⟩ := hc.addV_nil hv0 (-1)
            refine hget_intro e1 (ldNH_nil e2 (hget_intro q1 (needS_intro (by rw [q2]; rfl) ⟨(_, k + 1), rfl, rfl, rfl, rfl, rfl, ?_⟩)))
            refine step _ hl0 ?_
            rw [← pad_succ, hv0]
            exact q3
          · simp only at e2 e3
            refine hget_intro e1 (ldNH_h e2 (brS_intro (fun c => ?_) (fun c => ?_)))
            · rw [decide_eq_true_eq] at c
              have hl0 : (st.vars ++ List.replicate k (-1)).length < v.toNat := by omega
              obtain ⟨r2, q1, q2, q3⟩ := hc.addV e1 e2 e3 e4 e5 (-1)
              have hsm : (st.vars ++ List.replicate k (-1)).length ≤ 6 := by omega
              refine hget_intro e1 (ldNH_h e2 (hget_intro e3 (needS_intro (by simp only [List.length_map, Nat.mul_one, Bool.and_eq_true, nbeq_t, Nat.ble_eq, true_and]; omega) ?_)))
              have etk : List.take ((st.vars ++ List.replicate k (-1)).length * 1) (List.map (IV.int .i64) (st.vars ++ List.replicate k (-1))) = List.map (IV.int .i64) (st.vars ++ List.replicate k (-1)) := List.take_of_length_le (by simp)
              rw [etk]
              refine hget_intro q1 (needS_intro (by rw [q2]; rfl) ⟨(_, k + 1), rfl, rfl, rfl, rfl, rfl, ?_⟩)
              refine step _ hl0 ?_
              rw [← pad_succ]
              exact q3
            · rw [decide_eq_false_iff_not] at c
              have hd := done (by omega)
              refine ⟨g, ?_⟩
              repeat (refine And.intro (by first | rfl | exact True.intro) ?_)
              exact ⟨hd, trivial⟩
        · rintro g _ hc
          try dsimp only at hc ⊢
          have hpl : (pad st.vars v).length ≤ 6 ∧ v.toNat ≤ (pad st.vars v).length := by rw [pad_len]; omega
          have hw : IntKind.i64.wrap (v - 1) = v - 1 := IntWalk.i64_in _ (by omega)
          have hlt : (v - 1).toNat < (pad st.vars v).length := by omega
          have hgd : (pad st.vars v).getD (v - 1).toNat 0 = (pad st.vars v)[(v - 1).toNat] := by rw [List.getD_eq_getElem?_getD, List.getElem?_eq_getElem hlt]; rfl
          have cv2 : 0 < v := by omega
          rw [hw]
          rcases hc.getV with ⟨hv0, r, e1, e2⟩ | ⟨r, j, e1, e2, e3, e4, e5⟩
          · simp only at hv0
            rw [hv0] at hlt
            simp at hlt
          simp only at e2 e3
          have hcomp1 : 0 ≤ (pad st.vars v)[(v - 1).toNat] → comp (.mk v op im iv []) a st = ⟨st.l ++ [⟨2, a, (pad st.vars v)[(v - 1).toNat], 0, 0, 0⟩], st.next, pad st.vars v⟩ := fun q => by
            rw [comp, if_pos cv2, hgd, if_pos q]
          have hcomp2 : ¬ 0 ≤ (pad st.vars v)[(v - 1).toNat] → comp (.mk v op im iv []) a st = ⟨st.l, st.next, (pad st.vars v).set (v - 1).toNat a⟩ := fun q => by
            rw [comp, if_pos cv2, hgd, if_neg q]
          simp only [Nat.zero_add, Nat.mul_one]
          have nd : (decide (0 ≤ v - 1) && decide (v - 1 < ((pad st.vars v).length : Int))) = true := by simp; omega
          refine hget_intro e1 (ldNH_h e2 ?_)
          simp only [Nat.zero_add, Nat.mul_one]
          refine needS_intro nd (hget_intro e3 (ldIS_map hlt (brS_intro (fun c => ?_) (fun c => ?_))))
          · rw [decide_eq_true_eq] at c
            rw [hcomp1 c] at hk
            rcases hc.getL with ⟨hl0, r', f1, f2⟩ | ⟨r', i, f1, f2, f3, f4⟩
            · simp only at hl0
              rw [e1] at f1
              cases f1
              obtain ⟨r2, q1, q2, q3⟩ := hc.addL_nil hl0 ⟨2, a, (pad st.vars v)[(v - 1).toNat], 0, 0, 0⟩
              refine hget_intro e1 (ldNV_nil f2 (hget_intro q1 (needS_intro (by rw [q2]; rfl) (hk _ ?_))))
              rw [hl0]
              exact q3
            · simp only at f2 f3
              rw [e1] at f1
              cases f1
              obtain ⟨r2, q1, q2, q3⟩ := hc.addL f3 f4 ⟨2, a, (pad st.vars v)[(v - 1).toNat], 0, 0, 0⟩
              exact hget_intro e1 (ldNV_v f2 (tip_intro f3 (needS_intro (by simp only [Bool.and_eq_true, nbeq_t, Nat.ble_eq, true_and]; omega) (hget_intro q1 (needS_intro (by rw [q2]; rfl) (hk _ q3))))))
          · rw [decide_eq_false_iff_not] at c
            have c' : ¬ 0 ≤ (pad st.vars v)[(v - 1).toNat] := by omega
            rw [hcomp2 c'] at hk
            refine hget_intro e1 (ldNH_h e2 ?_)
            simp only [Nat.zero_add, Nat.mul_one]
            refine needS_intro nd (hget_intro e3 (needS_intro (by rw [Nat.ble_eq, List.length_map]; omega) (hk _ ?_)))
            have hs := hc.setV e1 e2 e4 e5 ((pad st.vars v).set (v - 1).toNat a) (by simp)
            have he : List.take (v - 1).toNat ((pad st.vars v).map (IV.int .i64)) ++ [IV.int .i64 a] ++ List.drop ((v - 1).toNat + 1) ((pad st.vars v).map (IV.int .i64)) = ((pad st.vars v).set (v - 1).toNat a).map (IV.int .i64) := by
              rw [List.set_eq_take_append_cons_drop, if_pos hlt]
              simp [List.map_take, List.map_drop]
            rw [he]
            exact hs
      · rw [decide_eq_false_iff_not] at cv
        obtain ⟨rfl, hka, hkw⟩ : v = 0 ∧ (ks.length : Int) = ar op ∧ wfs ks := by
          rcases hwf with q | ⟨q, _⟩
          · exact q
          · omega
        have hw : IntKind.i64.wrap (st.next + ks.length) = st.next + ks.length := IntWalk.i64_in _ (by omega)
        obtain ⟨r, e1, e2, e3⟩ := hcs.getN
        refine hget_intro e1 (ldI_at e2 (hget_intro e1 (ldI_at e2 (hget_intro e1 (needS_intro (by rw [e3]; rfl) ⟨?_, ?_⟩)))))
        · rw [hw]
          have hc := hcs.setN (st.next + ks.length) e1
          rcases hc.getL with ⟨hl0, r', f1, f2⟩ | ⟨r', i, f1, f2, f3, f4⟩
          · simp only at hl0
            obtain ⟨r2, q1, q2, q3⟩ := hc.addL_nil hl0 ⟨1, a, st.next, op, im, iv⟩
            refine hget_intro f1 (ldNV_nil f2 (hget_intro q1 (needS_intro (by rw [q2]; rfl) ⟨_, rfl, rfl, rfl, rfl, rfl, ?_, trivial⟩)))
            rw [hl0]
            exact q3
          · simp only at f2 f3
            obtain ⟨r2, q1, q2, q3⟩ := hc.addL f3 f4 ⟨1, a, st.next, op, im, iv⟩
            refine hget_intro f1 (ldNV_v f2 (tip_intro f3 (needS_intro (by simp only [Bool.and_eq_true, nbeq_t, Nat.ble_eq, true_and]; omega) (hget_intro q1 (needS_intro (by rw [q2]; rfl) ⟨_, rfl, rfl, rfl, rfl, rfl, q3, trivial⟩)))))
        · rintro g _ hc
          try dsimp only at hc ⊢
          refine ⟨⟨(g, ⟨st.l ++ [⟨1, a, st.next, op, im, iv⟩], st.next + ks.length, st.vars⟩, 0), ?_⟩, ?_⟩
          · repeat (refine And.intro (by first | rfl | exact True.intro) ?_)
            refine ⟨⟨?_, hc, Nat.zero_le _, ?_⟩, trivial⟩
            · rw [comp, if_neg (by omega)]
              rfl
            · simp only [List.drop_zero, List.length_append, List.length_cons, List.length_nil]
              omega
          · rintro ⟨g2, st2, i⟩ _ ⟨he, hc2, hi, hb7⟩
            simp only at he hc2 hi hb7 ⊢
            refine brS_intro (fun c => ?_) (fun c => ?_)
            · rw [decide_eq_true_eq] at c
              have hlt : i < ks.length := by omega
              rw [comps_step hlt] at he
              rw [nums_drop hlt] at hb7
              have hwi : IntKind.i64.wrap (st.next + i) = st.next + i := IntWalk.i64_in _ (by omega)
              simp only [tn]
              have hki := num_lt (List.getElem_mem hlt)
              have hkw := wf_kid hkw (List.getElem_mem hlt)
              have hnp := num_pos ks[i]
              have hln := len_nums (ks.drop (i + 1))
              rw [List.length_drop] at hln
              refine needS_intro (by simp; omega) (ldT hlt rfl ⟨ks[i].ks, st2, ⟨rfl, rfl⟩, hc2, ?_, ?_, fun h2 hg2 => ⟨(h2, comp ks[i] (st.next + i) st2, i + 1), ?_⟩⟩)
              · rw [eta]; exact ⟨by omega, hkw⟩
              · rw [eta, hwi]; omega
              · rw [eta, hwi] at hg2
                repeat (refine And.intro (by first | rfl | exact True.intro) ?_)
                refine ⟨by rw [IntWalk.i64_in _ (by omega)]; rfl, ?_⟩
                repeat (refine And.intro (by first | rfl | exact True.intro) ?_)
                have hbd := comp_bd ks[i] (st.next + i) st2 hkw hb7.2.2.2
                exact ⟨⟨he, hg2, hlt, by simp only; omega⟩, by simp only; omega⟩
            · rw [decide_eq_false_iff_not] at c
              rw [comps_end (by omega)] at he
              subst he
              exact hk _ hc2
    · exact hk.elim
def cComp := addC 27 (fun xs h K => ∃ d, kComp d xs h K) cRIns
theorem okComp : Sound env cComp := sound_add (fun xs h Q hk => hk.elim fun d hk => rComp d xs h Q hk) (okRIns)

end Go.Proofs.Ytmfnadojephcpaa
