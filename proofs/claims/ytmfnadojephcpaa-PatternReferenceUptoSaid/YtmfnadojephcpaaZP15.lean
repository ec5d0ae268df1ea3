/-
  Patterns: what the reference compiles a pattern to.
  Conditions: none.
-/
import Derived.Test.YtmfnadojephcpaaEP15
import Derived.KernelRfl
set_option linter.unusedVariables false
set_option linter.unusedSimpArgs false
namespace Go.Proofs.Ytmfnadojephcpaa
open Go.Pv Go.M15
theorem ldIo {k : IntKind} {l : List Int} {i o : Nat} {K : Int → Prop} (h : i < l.length) (ho : o = i) (hk : K l[i]) : ldIS k (l.map (IV.int k)) o K := by
  subst ho
  exact ldIS_map h hk
def vsVar (id : Nat) (v op im iv : Int) (ks : List T) (io : Option Nat) (e1 : Nat) (a : Int) (st : St) : Inv' := atX (Heap × Nat) (fun x => [(0, .v (.ptr id 0)), (2, .v (.int .i64 a)), (4, .l 4 0)]) (fun _ => [(4, [.int .i64 v, .int .i64 op, .int .i64 im, .int .i64 iv, .vslice io e1 ks.length 5 (cTs ks)])]) (fun x => x.1)
  (fun x => CS false x.1 id ⟨st.l, st.next, st.vars ++ List.replicate x.2 (-1)⟩ ∧ st.vars.length + x.2 ≤ max st.vars.length v.toNat) (fun x => v.toNat - (st.vars.length + x.2))
def vsC1 (id : Nat) (v op im iv : Int) (ks : List T) (io : Option Nat) (e1 : Nat) (a : Int) (st : St) : Inv' := atX Heap (fun x => [(0, .v (.ptr id 0)), (2, .v (.int .i64 a)), (4, .l 4 0)]) (fun _ => [(4, [.int .i64 v, .int .i64 op, .int .i64 im, .int .i64 iv, .vslice io e1 ks.length 5 (cTs ks)])]) (fun x => x)
  (fun x => CS false x id ⟨st.l, st.next, pad st.vars v⟩) (fun x => 0)
def vsC2 (id : Nat) (v op im iv : Int) (ks : List T) (io : Option Nat) (e1 : Nat) (a : Int) (st : St) : Inv' := atX Heap (fun x => [(0, .v (.ptr id 0)), (4, .l 4 0), (6, .v (.int .i64 st.next))]) (fun _ => [(4, [.int .i64 v, .int .i64 op, .int .i64 im, .int .i64 iv, .vslice io e1 ks.length 5 (cTs ks)])]) (fun x => x)
  (fun x => CS false x id ⟨st.l ++ [⟨1, a, st.next, op, im, iv⟩], st.next + ks.length, st.vars⟩) (fun x => 0)
def vsInv (id : Nat) (v op im iv : Int) (ks : List T) (io : Option Nat) (e1 : Nat) (a : Int) (st : St) : Inv' := atX (Heap × St × Nat) (fun x => [(0, .v (.ptr id 0)), (4, .l 4 0), (6, .v (.int .i64 st.next)), (7, .v (.int .i64 x.2.2))]) (fun _ => [(4, [.int .i64 v, .int .i64 op, .int .i64 im, .int .i64 iv, .vslice io e1 ks.length 5 (cTs ks)])]) (fun x => x.1)
  (fun x => comps (ks.drop x.2.2) st.next x.2.2 x.2.1 = comp (.mk v op im iv ks) a st ∧ CS false x.1 id x.2.1 ∧ x.2.2 ≤ ks.length ∧ (0 ≤ x.2.1.next ∧ x.2.1.next + nums (ks.drop x.2.2) + x.2.2 + 1 ≤ 1000000000 + ks.length ∧ x.2.1.l.length + nums (ks.drop x.2.2) ≤ 1000000000 ∧ x.2.1.vars.length ≤ 6)) (fun x => ks.length - x.2.2)
def kVisit (d : Nat) (xs : List IV) (h : Heap) (K : IV → Heap → Prop) : Prop := match xs with
  | [.ptr id 0, .agg [.int .i64 v, .int .i64 op, .int .i64 im, .int .i64 iv, .vslice io e1 n1 5 c1], .int .i64 a] => ∃ (ks : List T) (st : St), (n1 = ks.length ∧ c1 = cTs ks) ∧ CS false h id st ∧ ((T.mk v op im iv ks).num ≤ d ∧ (T.mk v op im iv ks).wf) ∧
       ((0 ≤ a ∧ a ≤ 1000000000 ∧ 0 ≤ st.next ∧ st.next + (T.mk v op im iv ks).num ≤ 1000000000 ∧ st.l.length + (T.mk v op im iv ks).num ≤ 1000000000) ∧ st.vars.length ≤ 6) ∧
       ∀ h2 : Heap, CS false h2 id (comp (.mk v op im iv ks) a st) → K (.tuple []) h2
  | _ => False
noncomputable def z36a (v op im iv : Int) (ks : List T) (io : Option Nat) (e1 : Nat) := [IV.int .i64 v, IV.int .i64 op, IV.int .i64 im, IV.int .i64 iv, IV.vslice io e1 ks.length 5 (cTs ks)]
noncomputable def z36b (id : Nat) (ks : List T) (h : Heap) (n52 : Int) (r53 : List IV) := Heap.set h id (IObj.cells (List.take 2 r53 ++ [IV.int .i64 (IntKind.wrap .i64 (n52 + (↑ks.length : Int)))] ++ List.drop 3 r53))
noncomputable def z36c  := TV.l 4 0
noncomputable def z36d (id : Nat) := TV.v (.ptr id 0)
noncomputable def z36e (a : Int) := TV.v (.int .i64 a)
noncomputable def z36f  := [IV.int .i64 (-1)]
noncomputable def z36g (v : Int) := IntKind.wrap .i64 (v - 1)
noncomputable def z36h (st : St) := TV.v (.int .i64 (St.next st))
noncomputable abbrev z36i (v : Int) := 0 ≤ IntKind.wrap .i64 (v - 1)
noncomputable def z36j (st : St) := List.length (St.vars st)
noncomputable def z36k (op im iv a n50 : Int) := [IV.int .i64 1, IV.int .i64 a, IV.int .i64 n50, IV.int .i64 op, IV.int .i64 im, IV.int .i64 iv]
set_option maxRecDepth 100000 in
theorem vVisit (dd : Nat) (id : Nat) (v op im iv : Int) (ks : List T) (io : Option Nat) (e1 : Nat) (a : Int) (st : St) (h : Heap) (Q : IV → Heap → Prop) : dF (stdS (addC 36 (kVisit dd) cCompile)) env 36 noU (icA 3 (vsVar id v op im iv ks io e1 a st) (ic1 12 (vsInv id v op im iv ks io e1 a st))) (icA 5 (vsC1 id v op im iv ks io e1 a st) (ic1 11 (vsC2 id v op im iv ks io e1 a st))) [.ptr id 0, .agg [.int .i64 v, .int .i64 op, .int .i64 im, .int .i64 iv, .vslice io e1 ks.length 5 (cTs ks)], .int .i64 a] h Q = (
  brS (decide (v > 0)) (((∃ (x : Heap × Nat), some (z36d id) = some (z36d id) ∧ some (z36e a) = some (z36e a) ∧ some z36c = some z36c ∧ some (z36a v op im iv ks io e1) = some (z36a v op im iv ks io e1) ∧ h = x.1 ∧ (CS false x.1 id (St.mk (St.l st) (St.next st) (St.vars st ++ List.replicate
 x.2 (-1 : Int))) ∧ List.length (St.vars st) + x.2 ≤ max (z36j st) v.toNat) ∧ True) ∧ ∀ (x : Heap × Nat) (b : FF), CS false x.1 id (St.mk (St.l st) (St.next st) (St.vars st ++ List.replicate x.2 (-1 : Int))) ∧ List.length (St.vars st) + x.2 ≤ max (z36j st)
 v.toNat → hgetS x.1 id fun r0 => ldNHS 1 r0 1 (brS (decide (0 < v)) (hgetS x.1 id fun r1 => ldNHS 1 r1 1 (hgetS (Heap.push x.1 (IObj.cells z36f)) id fun r2 => needS (Nat.ble 2 (List.length
 r2)) (∃ (x_1 : Heap × Nat), some (z36d id) = some (z36d id) ∧ some (z36e a) = some (z36e a) ∧ some z36c = some z36c ∧ some (z36a v op im iv ks io e1) = some (z36a v op im iv ks io e1) ∧ Heap.set (Heap.push x.1 (IObj.cells z36f)) id (IObj.cells (List.take 1 r2 ++ [IV.hslice (Heap.next
 x.1) 0 1 1] ++ List.drop 2 r2)) = x_1.1 ∧ (CS false x_1.1 id (St.mk (St.l st) (St.next st) (St.vars st ++ List.replicate x_1.2 (-1 : Int))) ∧ List.length (St.vars st) + x_1.2 ≤ max (z36j st) v.toNat) ∧ v.toNat - (List.length
 (St.vars st) + x_1.2) < v.toNat - (List.length (St.vars st) + x.2))) fun (i3 o4 l5 : Nat) => hgetS x.1 i3 fun r6 => needS (Nat.beq o4 (0 : Nat) && (Nat.ble (l5 * 1) r6.length && Nat.ble ((l5 + 1) * 8) (140737488355328 : Nat))) (hgetS
 (Heap.push (Heap.set x.1 i3 IObj.dead) (IObj.cells (List.take (l5 * 1) r6 ++ z36f))) id fun r7 => needS (Nat.ble 2 r7.length) (∃ (x_1 : Heap × Nat), some (z36d id) = some (z36d id) ∧ some (z36e a) = some (z36e a) ∧ some z36c = some z36c ∧ some (z36a v op im
 iv ks io e1) = some (z36a v op im iv ks io e1) ∧ Heap.set (Heap.push (Heap.set x.1 i3 IObj.dead) (IObj.cells (List.take (l5 * 1) r6 ++ z36f))) id (IObj.cells (List.take 1 r7 ++ [IV.hslice (Heap.next x.1) 0 (l5 + 1) 1] ++ List.drop 2 r7))
 = x_1.1 ∧ (CS false x_1.1 id (St.mk (St.l st) (St.next st) (St.vars st ++ List.replicate x_1.2 (-1 : Int))) ∧ List.length (St.vars st) + x_1.2 ≤ max (z36j st) v.toNat) ∧ v.toNat - (List.length (St.vars st) + x_1.2) < v.toNat - (List.length (St.vars
 st) + x.2)))) (∃ (x_1 : Heap), some (z36d id) = some (z36d id) ∧ some (z36e a) = some (z36e a) ∧ some z36c = some z36c ∧ some (z36a v op im iv ks io e1) = some (z36a v op im iv ks io e1) ∧ x.1 = x_1 ∧ (id < Heap.next x_1 ∧ ∃ (L V : IV), Heap.get x_1 id = IObj.cells [L, V, IV.int
 .i64 (St.next st)] ∧ RL x_1 L (St.l st) ∧ RV x_1 id V (pad (St.vars st) v)) ∧ True)) fun (i8 o9 l10 : Nat) => brS (decide ((↑l10 : Int) < v)) (hgetS x.1 id fun r11 => ldNHS 1 r11 1 (hgetS (Heap.push x.1 (IObj.cells z36f)) id fun r12 =>
 needS (Nat.ble 2 r12.length) (∃ (x_1 : Heap × Nat), some (z36d id) = some (z36d id) ∧ some (z36e a) = some (z36e a) ∧ some z36c = some z36c ∧ some (z36a v op im iv ks io e1) = some (z36a v op im iv ks io e1) ∧ Heap.set (Heap.push x.1 (IObj.cells z36f)) id (IObj.cells (List.take
 (1 : Nat) r12 ++ [IV.hslice (Heap.next x.1) 0 1 1] ++ List.drop 2 r12)) = x_1.1 ∧ (CS false x_1.1 id (St.mk (St.l st) (St.next st) (St.vars st ++ List.replicate x_1.2 (-1 : Int))) ∧ List.length (St.vars st) + x_1.2 ≤ max (z36j st)
 v.toNat) ∧ v.toNat - (List.length (St.vars st) + x_1.2) < v.toNat - (List.length (St.vars st) + x.2))) fun (i13 o14 l15 : Nat) => hgetS x.1 i13 fun r16 => needS (Nat.beq o14 (0 : Nat) && (Nat.ble (l15 * 1) r16.length && Nat.ble ((l15 + (1
 : Nat)) * 8) (140737488355328 : Nat))) (hgetS (Heap.push (Heap.set x.1 i13 IObj.dead) (IObj.cells (List.take (l15 * 1) r16 ++ z36f))) id fun r17 => needS (Nat.ble 2 r17.length) (∃ (x_1 : Heap × Nat), some (z36d id) = some (z36d id) ∧ some (z36e a) =
 some (z36e a) ∧ some z36c = some z36c ∧ some (z36a v op im iv ks io e1) = some (z36a v op im iv ks io e1) ∧ Heap.set (Heap.push (Heap.set x.1 i13 IObj.dead) (IObj.cells (List.take (l15 * 1) r16 ++ z36f))) id (IObj.cells (List.take 1 r17 ++ [IV.hslice (Heap.next x.1)
 0 (l15 + 1) 1] ++ List.drop 2 r17)) = x_1.1 ∧ (CS false x_1.1 id (St.mk (St.l st) (St.next st) (St.vars st ++ List.replicate x_1.2 (-1 : Int))) ∧ List.length (St.vars st) + x_1.2 ≤ max (z36j st) v.toNat) ∧ v.toNat - (List.length
 (St.vars st) + x_1.2) < v.toNat - (List.length (St.vars st) + x.2)))) (∃ (x_1 : Heap), some (z36d id) = some (z36d id) ∧ some (z36e a) = some (z36e a) ∧ some z36c = some z36c ∧ some (z36a v op im iv ks io e1) = some (z36a v op im iv ks io e1) ∧ x.1 = x_1 ∧ (id < Heap.next x_1
 ∧ ∃ (L V : IV), Heap.get x_1 id = IObj.cells [L, V, IV.int .i64 (St.next st)] ∧ RL x_1 L (St.l st) ∧ RV x_1 id V (pad (St.vars st) v)) ∧ True)) ∧ ∀ (x : Heap) (b : FF), CS false x id (St.mk (St.l st) (St.next st) (pad (St.vars st) v)) → hgetS x id fun r18 => ldNHS 1
 r18 1 False fun (i19 o20 l21 : Nat) => needS (decide (z36i v) && decide (IntKind.wrap .i64 (v - 1) < (↑l21 : Int))) (hgetS x i19 fun r22 => ldIS .i64 r22 (o20 + Int.toNat (z36g v) * 1) fun n23 => brS (decide (n23 ≥ 0)) (hgetS x id fun
 (r24 : List IV) => ldNVS 6 r24 0 (hgetS x id fun r25 => ldNHS 1 r25 1 False fun (i26 o27 l28 : Nat) => needS (decide (z36i v) && decide (IntKind.wrap .i64 (v - 1) < (↑l28 : Int))) (hgetS x i26 fun r29 => ldIS .i64 r29 (o27
 + Int.toNat (z36g v) * 1) fun n30 => hgetS (Heap.push x (IObj.tip (6 : Nat))) id fun r31 => needS (Nat.ble 1 r31.length) (Q (.tuple []) (Heap.set (Heap.push x (IObj.tip (6 : Nat))) id (IObj.cells (IV.vslice (some (Heap.next x)) 6 1 6
 [IV.int .i64 2, IV.int .i64 a, IV.int .i64 n30, IV.int .i64 0, IV.int .i64 0, IV.int .i64 0] :: List.drop 1 r31)))))) fun (i32 e33 l34 : Nat) (c35 : List IV) => hgetS x id fun r36 => ldNHS 1 r36 (1 :
 Nat) False fun (i37 o38 l39 : Nat) => needS (decide (z36i v) && decide (IntKind.wrap .i64 (v - 1) < (↑l39 : Int))) (hgetS x i37 fun r40 => ldIS .i64 r40 (o38 + Int.toNat (z36g v) * 1) fun n41 => tipS x i32 fun (m42 : Nat) => needS (Nat.beq m42 e33 &&
 Nat.ble ((l34 + 1) * 48) (140737488355328 : Nat)) (hgetS (Heap.set x i32 (IObj.tip (e33 + 6))) id fun r43 => needS (Nat.ble 1 r43.length) (Q (.tuple []) (Heap.set (Heap.set x i32 (IObj.tip (e33 + 6))) id (IObj.cells (IV.vslice (some i32) (e33
 + (6 : Nat)) (l34 + 1) 6 (c35 ++ [IV.int .i64 2, IV.int .i64 a, IV.int .i64 n41, IV.int .i64 0, IV.int .i64 0, IV.int .i64 0]) :: List.drop 1 r43))))))) (hgetS x id fun r44 => ldNHS 1
 r44 1 False fun (i45 o46 l47 : Nat) => needS (decide (z36i v) && decide (IntKind.wrap .i64 (v - 1) < (↑l47 : Int))) (hgetS x i45 fun r48 => needS (Nat.ble (o46 + Int.toNat (z36g v) * 1 + (1 : Nat)) r48.length) (Q (.tuple []) (Heap.set x i45 (IObj.cells
 (List.take (o46 + Int.toNat (z36g v) * 1) r48 ++ [IV.int .i64 a] ++ List.drop (o46 + Int.toNat (z36g v) * 1 + (1 : Nat)) r48)))))))) (hgetS h id fun r49 => ldIS .i64 r49 2 fun n50 => hgetS h id fun r51 => ldIS .i64 r51 (2 :
 Nat) fun n52 => hgetS h id fun r53 => needS (Nat.ble 3 r53.length) ((hgetS (z36b id ks h n52 r53) id fun r54 => ldNVS 6 r54 0 (hgetS (Heap.push (z36b id ks h n52 r53) (IObj.tip (6 : Nat))) id fun r55 => needS (Nat.ble 1
 r55.length) (∃ (x : Heap), some (z36d id) = some (z36d id) ∧ some z36c = some z36c ∧ some (TV.v (.int .i64 n50)) = some (z36h st) ∧ some (z36a v op im iv ks io e1) = some (z36a v op im iv ks io e1) ∧ Heap.set (Heap.push (z36b id ks h n52 r53) (IObj.tip (6 : Nat))) id (IObj.cells (IV.vslice
 (some (Heap.next h)) (6 : Nat) (1 : Nat) (6 : Nat) (z36k op im iv a n50) :: List.drop 1 r55)) = x ∧ (id < Heap.next x ∧ ∃ (L V : IV), Heap.get x id = IObj.cells [L, V, IV.int .i64 (St.next st + (↑ks.length : Int))] ∧ RL x L (St.l st ++ [Ins.mk (1 : Int) a (St.next st)
 op im iv]) ∧ RV x id V (St.vars st)) ∧ True)) fun (i56 e57 l58 : Nat) (c59 : List IV) => tipS (z36b id ks h n52 r53) i56 fun (m60 : Nat) => needS (Nat.beq m60 e57 && Nat.ble ((l58 + 1) * 48) (140737488355328 : Nat)) (hgetS (Heap.set (z36b id ks h n52 r53) i56 (IObj.tip (e57 + 6)))
 id fun r61 => needS (Nat.ble 1 r61.length) (∃ (x : Heap), some (z36d id) = some (z36d id) ∧ some z36c = some z36c ∧ some (TV.v (.int .i64 n50)) = some (z36h st) ∧ some (z36a v op im iv ks io e1) = some (z36a v op im iv ks io e1) ∧ Heap.set (Heap.set (z36b id ks h n52
 r53) i56 (IObj.tip (e57 + 6))) id (IObj.cells (IV.vslice (some i56) (e57 + 6) (l58 + 1) 6 (c59 ++ (z36k op im iv a n50)) :: List.drop 1 r61)) = x ∧ (id < Heap.next x ∧ ∃ (L V : IV), Heap.get x id = IObj.cells [L, V, IV.int .i64 (St.next st + (↑(List.length
 ks) : Int))] ∧ RL x L (St.l st ++ [Ins.mk (1 : Int) a (St.next st) op im iv]) ∧ RV x id V (St.vars st)) ∧ True))) ∧ ∀ (x : Heap) (b : FF), CS false x id (St.mk (St.l st ++ [Ins.mk (1 : Int) a (St.next st) op im iv]) (St.next st + (↑ks.length : Int)) (St.vars st)) → (∃ (x_1 : Heap × St × Nat),
 some (z36d id) = some (z36d id) ∧ some z36c = some z36c ∧ some (z36h st) = some (z36h st) ∧ some (TV.v (.int .i64 0)) = some (TV.v (.int .i64 (↑x_1.2.2 : Int))) ∧ some (z36a v op im iv ks io e1) = some (z36a v op im iv ks io e1) ∧ x = x_1.1 ∧ (comps
 (List.drop x_1.2.2 ks) (St.next st) x_1.2.2 x_1.2.1 = comp (T.mk v op im iv ks) a st ∧ CS false x_1.1 id x_1.2.1 ∧ x_1.2.2 ≤ ks.length ∧ 0 ≤ St.next x_1.2.1 ∧ St.next (Prod.fst
 x_1.2) + (↑(nums (List.drop x_1.2.2 ks)) : Int) + (↑x_1.2.2 : Int) + 1 ≤ (1000000000 : Int) + (↑ks.length : Int) ∧ List.length (St.l x_1.2.1) + nums (List.drop x_1.2.2 ks) ≤ 1000000000 ∧ List.length
 (St.vars x_1.2.1) ≤ 6) ∧ True) ∧ ∀ (x : Heap × St × Nat) (b : FF), comps (List.drop x.2.2 ks) (St.next st) x.2.2 x.2.1 = comp (T.mk v op im iv ks) a st ∧ CS false x.1 id x.2.1 ∧ Prod.snd (Prod.snd
 x) ≤ ks.length ∧ 0 ≤ St.next x.2.1 ∧ St.next x.2.1 + (↑(nums (List.drop x.2.2 ks)) : Int) + (↑x.2.2 : Int) + 1 ≤ (1000000000 : Int) + (↑ks.length : Int) ∧ List.length (St.l x.2.1) + nums
 (List.drop x.2.2 ks) ≤ 1000000000 ∧ List.length (St.vars x.2.1) ≤ 6 → brS (decide ((↑x.2.2 : Int) < (↑ks.length : Int))) (needS (decide (0 ≤ (↑x.2.2 : Int)) && decide ((↑x.2.2 : Int)
 < (↑ks.length : Int))) (ldIS .i64 (cTs ks) (Int.toNat (↑x.2.2 : Int) * 5) fun n62 => ldIS .i64 (cTs ks) (Int.toNat (↑x.2.2 : Int) * 5 + (1 : Nat)) fun n63 => ldIS .i64 (cTs ks) (Int.toNat (↑(Prod.snd (Prod.snd
 x)) : Int) * 5 + (1 : Nat) + 1) fun n64 => ldIS .i64 (cTs ks) (Int.toNat (↑x.2.2 : Int) * 5 + (1 : Nat) + 1 + (1 : Nat)) fun n65 => ldVS 5 (cTs ks) (Int.toNat (↑x.2.2 : Int) * 5 + (1 : Nat) + (1
 : Nat) + 1 + (1 : Nat)) fun (i66 : Option Nat) (e67 l68 : Nat) (c69 : List IV) => ∃ (ks_1 : List T), ∃ (st_1 : St), (l68 = ks_1.length ∧ c69 = cTs ks_1) ∧ CS false x.1 id st_1 ∧ (T.num (T.mk n62 n63 n64 n65 ks_1) ≤ dd ∧ T.wf (T.mk n62 n63 n64 n65 ks_1)) ∧ ((0 ≤ IntKind.wrap
 .i64 (St.next st + (↑x.2.2 : Int)) ∧ IntKind.wrap .i64 (St.next st + (↑x.2.2 : Int)) ≤ 1000000000 ∧ 0 ≤ St.next st_1 ∧ St.next st_1 + (↑(T.num (T.mk n62 n63 n64 n65 ks_1)) : Int) ≤ 1000000000 ∧ List.length (St.l st_1) + T.num (T.mk
 n62 n63 n64 n65 ks_1) ≤ 1000000000) ∧ List.length (St.vars st_1) ≤ 6) ∧ ∀ (h2 : Heap), CS false h2 id (comp (T.mk n62 n63 n64 n65 ks_1) (IntKind.wrap .i64 (St.next st + (↑x.2.2 : Int))) st_1) → ∃ (x_1 : Heap × St × Nat), some (z36d id) = some (z36d id) ∧ some
 z36c = some z36c ∧ some (z36h st) = some (z36h st) ∧ some (TV.v (.int .i64 (IntKind.wrap .i64 ((↑x.2.2 : Int) + 1)))) = some (TV.v (.int .i64 (↑x_1.2.2 : Int))) ∧ some (z36a v op im iv ks io e1) = some (z36a v op im iv ks io e1) ∧ h2
 = x_1.1 ∧ (comps (List.drop x_1.2.2 ks) (St.next st) x_1.2.2 x_1.2.1 = comp (T.mk v op im iv ks) a st ∧ CS false x_1.1 id x_1.2.1 ∧ x_1.2.2 ≤ ks.length ∧ 0 ≤ St.next (Prod.fst (Prod.snd
 x_1)) ∧ St.next x_1.2.1 + (↑(nums (List.drop x_1.2.2 ks)) : Int) + (↑x_1.2.2 : Int) + 1 ≤ (1000000000 : Int) + (↑ks.length : Int) ∧ List.length (St.l x_1.2.1) + nums (List.drop x_1.2.2 ks) ≤ (1000000000
 : Nat) ∧ List.length (St.vars x_1.2.1) ≤ 6) ∧ ks.length - x_1.2.2 < ks.length - x.2.2)) (Q (.tuple []) x.1)))) := by kernel_rfl
set_option maxHeartbeats 2000000 in
theorem rVisit : ∀ d xs h Q, kVisit d xs h Q → CallW env 36 xs h Q := by
  intro d
  induction d with
  | zero =>
    intro xs h Q hk
    unfold kVisit at hk
    split at hk
    · rename_i id v op im iv io e1 n1 c1 a
      obtain ⟨ks, st, ⟨rfl, rfl⟩, hcs, hd, hb, hk⟩ := hk
      have := num_pos (T.mk v op im iv ks)
      omega
    · exact hk.elim
  | succ dd ih =>
    intro xs h Q hk
    unfold kVisit at hk
    split at hk
    · rename_i id v op im iv io e1 n1 c1 a
      obtain ⟨ks, st, ⟨rfl, rfl⟩, hcs, hd, hb, hk⟩ := hk
      refine dF_run (sound_add ih (okCompile)) (vVisit dd id v op im iv ks io e1 a st h Q) ?_
      delta z36a z36b z36c z36d z36e z36f z36g z36h z36i z36j z36k
      have vb : Q (.tuple []) = Q (.tuple []) := rfl
      obtain ⟨⟨hn1, hwf⟩, ⟨hb1, hb2, hb3, hb4, hb5⟩, hb6⟩ := And.intro hd hb
      have tn : ∀ x : Nat, (x : Int).toNat = x := Int.toNat_natCast
      have eta : ∀ t : T, T.mk t.v t.op t.im t.iv t.ks = t := fun t => by cases t; rfl
      have hnum : (T.mk v op im iv ks).num = nums ks + 1 := rfl
      have hlen := len_nums ks
      rw [hnum] at hn1 hb4 hb5
      refine brS_intro (fun cv => ?_) (fun cv => ?_)
      · rw [decide_eq_true_eq] at cv
        obtain ⟨h1, h2, rfl⟩ : 1 ≤ v ∧ v ≤ 6 ∧ ks = [] := by
          rcases hwf with ⟨q, _⟩ | q
          · omega
          · exact q
        refine ⟨⟨⟨(h, 0), ?_⟩, ?_⟩, ?_⟩
        · repeat (refine And.intro (by first | rfl | exact True.intro) ?_)
          refine ⟨⟨by simpa using hcs, by simp only; omega⟩, trivial⟩
        · rintro ⟨g, k⟩ _ ⟨hc, hk2⟩
          dsimp only at hc hk2 ⊢
          have step : ∀ (g' : Heap), (st.vars ++ List.replicate k (-1)).length < v.toNat → CS false g' id ⟨st.l, st.next, st.vars ++ List.replicate (k + 1) (-1)⟩ → (CS false g' id ⟨st.l, st.next, st.vars ++ List.replicate (k + 1) (-1)⟩ ∧ st.vars.length + (k + 1) ≤ max st.vars.length v.toNat) ∧ v.toNat - (st.vars.length + (k + 1)) < v.toNat - (st.vars.length + k) := by
            intro g' hl hc'
            simp only [List.length_append, List.length_replicate] at hl
            exact ⟨⟨hc', by omega⟩, by omega⟩
          have done : ¬ (st.vars ++ List.replicate k (-1)).length < v.toNat → CS false g id ⟨st.l, st.next, pad st.vars v⟩ := by
            intro hl
            simp only [List.length_append, List.length_replicate] at hl
            have : k = v.toNat - st.vars.length := by omega
            unfold pad
            rw [← this]
            exact hc
          rcases hc.getV with ⟨hv0, r, e1, e2⟩ | ⟨r, j, e1, e2, e3, e4, e5⟩
          · simp only at hv0
            have hl0 : (st.vars ++ List.replicate k (-1)).length < v.toNat := by rw [hv0]; simp; omega
            refine hget_intro e1 (ldNH_nil e2 (brS_intro (fun _ => ?_) (fun c => absurd (of_decide_eq_false c) (by omega))))
            obtain ⟨r2, q1, q2, q3⟩ := hc.addV_nil hv0 (-1)
            refine hget_intro e1 (ldNH_nil e2 (hget_intro q1 (needS_intro (by rw [q2]; rfl) ⟨(_, k + 1), rfl, rfl, rfl, rfl, rfl, ?_⟩)))
            refine step _ hl0 ?_
            rw [← pad_succ, hv0]
            exact q3
          · simp only at e2 e3
            refine hget_intro e1 (ldNH_h e2 (brS_intro (fun c => ?_) (fun c => ?_)))
            · rw [decide_eq_true_eq] at c
              have hl0 : (st.vars ++ List.replicate k (-1)).length < v.toNat := by omega
              obtain ⟨r2, q1, q2, q3⟩ := hc.addV e1 e2 e3 e4 e5 (-1)
              have hsm : (st.vars ++ List.replicate k (-1)).length ≤ 6 := by omega
              refine hget_intro e1 (ldNH_h e2 (hget_intro e3 (needS_intro (by simp only [List.length_map, Nat.mul_one, Bool.and_eq_true, nbeq_t, Nat.ble_eq, true_and]; omega) ?_)))
              have etk : List.take ((st.vars ++ List.replicate k (-1)).length * 1) (List.map (IV.int .i64) (st.vars ++ List.replicate k (-1))) = List.map (IV.int .i64) (st.vars ++ List.replicate k (-1)) := List.take_of_length_le (by simp)
              rw [etk]
              refine hget_intro q1 (needS_intro (by rw [q2]; rfl) ⟨(_, k + 1), rfl, rfl, rfl, rfl, rfl, ?_⟩)
              refine step _ hl0 ?_
              rw [← pad_succ]
              exact q3
            · rw [decide_eq_false_iff_not] at c
              have hd := done (by omega)
              refine ⟨g, ?_⟩
              repeat (refine And.intro (by first | rfl | exact True.intro) ?_)
              exact ⟨hd, trivial⟩
        · rintro g _ hc
          try dsimp only at hc ⊢
          have hpl : (pad st.vars v).length ≤ 6 ∧ v.toNat ≤ (pad st.vars v).length := by rw [pad_len]; omega
          have hw : IntKind.i64.wrap (v - 1) = v - 1 := IntWalk.i64_in _ (by omega)
          have hlt : (v - 1).toNat < (pad st.vars v).length := by omega
          have hgd : (pad st.vars v).getD (v - 1).toNat 0 = (pad st.vars v)[(v - 1).toNat] := by rw [List.getD_eq_getElem?_getD, List.getElem?_eq_getElem hlt]; rfl
          have cv2 : 0 < v := by omega
          rw [hw]
          rcases hc.getV with ⟨hv0, r, e1, e2⟩ | ⟨r, j, e1, e2, e3, e4, e5⟩
          · simp only at hv0
            rw [hv0] at hlt
            simp at hlt
          simp only at e2 e3
          have hcomp1 : 0 ≤ (pad st.vars v)[(v - 1).toNat] → comp (.mk v op im iv []) a st = ⟨st.l ++ [⟨2, a, (pad st.vars v)[(v - 1).toNat], 0, 0, 0⟩], st.next, pad st.vars v⟩ := fun q => by
            rw [comp, if_pos cv2, hgd, if_pos q]
          have hcomp2 : ¬ 0 ≤ (pad st.vars v)[(v - 1).toNat] → comp (.mk v op im iv []) a st = ⟨st.l, st.next, (pad st.vars v).set (v - 1).toNat a⟩ := fun q => by
            rw [comp, if_pos cv2, hgd, if_neg q]
          simp only [Nat.zero_add, Nat.mul_one]
          have nd : (decide (0 ≤ v - 1) && decide (v - 1 < ((pad st.vars v).length : Int))) = true := by simp; omega
          refine hget_intro e1 (ldNH_h e2 ?_)
          simp only [Nat.zero_add, Nat.mul_one]
          refine needS_intro nd (hget_intro e3 (ldIS_map hlt (brS_intro (fun c => ?_) (fun c => ?_))))
          · rw [decide_eq_true_eq] at c
            rw [hcomp1 c] at hk
            rcases hc.getL with ⟨hl0, r', f1, f2⟩ | ⟨r', i, f1, f2, f3, f4⟩
            · simp only at hl0
              rw [e1] at f1
              cases f1
              obtain ⟨r2, q1, q2, q3⟩ := hc.addL_nil hl0 ⟨2, a, (pad st.vars v)[(v - 1).toNat], 0, 0, 0⟩
              refine hget_intro e1 (ldNV_nil f2 (hget_intro e1 (ldNH_h e2 (needS_intro nd (hget_intro e3 (ldIo hlt (by simp) (hget_intro q1 (needS_intro (by rw [q2]; rfl) (hk _ ?_)))))))))
              rw [hl0]
              exact q3
            · simp only at f2 f3
              rw [e1] at f1
              cases f1
              obtain ⟨r2, q1, q2, q3⟩ := hc.addL f3 f4 ⟨2, a, (pad st.vars v)[(v - 1).toNat], 0, 0, 0⟩
              exact hget_intro e1 (ldNV_v f2 (hget_intro e1 (ldNH_h e2 (needS_intro nd (hget_intro e3 (ldIo hlt (by simp) (tip_intro f3 (needS_intro (by simp only [Bool.and_eq_true, nbeq_t, Nat.ble_eq, true_and]; omega) (hget_intro q1 (needS_intro (by rw [q2]; rfl) (hk _ q3)))))))))))
          · rw [decide_eq_false_iff_not] at c
            have c' : ¬ 0 ≤ (pad st.vars v)[(v - 1).toNat] := by omega
            rw [hcomp2 c'] at hk
            refine hget_intro e1 (ldNH_h e2 ?_)
            simp only [Nat.zero_add, Nat.mul_one]
            refine needS_intro nd (hget_intro e3 (needS_intro (by rw [Nat.ble_eq, List.length_map]; omega) (hk _ ?_)))
            have hs := hc.setV e1 e2 e4 e5 ((pad st.vars v).set (v - 1).toNat a) (by simp)
            have he : List.take (v - 1).toNat ((pad st.vars v).map (IV.int .i64)) ++ [IV.int .i64 a] ++ List.drop ((v - 1).toNat + 1) ((pad st.vars v).map (IV.int .i64)) = ((pad st.vars v).set (v - 1).toNat a).map (IV.int .i64) := by
              rw [List.set_eq_take_append_cons_drop, if_pos hlt]
              simp [List.map_take, List.map_drop]
            rw [he]
            exact hs
      · rw [decide_eq_false_iff_not] at cv
        obtain ⟨rfl, hka, hkw⟩ : v = 0 ∧ (ks.length : Int) = ar op ∧ wfs ks := by
          rcases hwf with q | ⟨q, _⟩
          · exact q
          · omega
        have hw : IntKind.i64.wrap (st.next + ks.length) = st.next + ks.length := IntWalk.i64_in _ (by omega)
        obtain ⟨r, e1, e2, e3⟩ := hcs.getN
        refine hget_intro e1 (ldI_at e2 (hget_intro e1 (ldI_at e2 (hget_intro e1 (needS_intro (by rw [e3]; rfl) ⟨?_, ?_⟩)))))
        · rw [hw]
          have hc := hcs.setN (st.next + ks.length) e1
          rcases hc.getL with ⟨hl0, r', f1, f2⟩ | ⟨r', i, f1, f2, f3, f4⟩
          · simp only at hl0
            obtain ⟨r2, q1, q2, q3⟩ := hc.addL_nil hl0 ⟨1, a, st.next, op, im, iv⟩
            refine hget_intro f1 (ldNV_nil f2 (hget_intro q1 (needS_intro (by rw [q2]; rfl) ⟨_, rfl, rfl, rfl, rfl, rfl, ?_, trivial⟩)))
            rw [hl0]
            exact q3
          · simp only at f2 f3
            obtain ⟨r2, q1, q2, q3⟩ := hc.addL f3 f4 ⟨1, a, st.next, op, im, iv⟩
            refine hget_intro f1 (ldNV_v f2 (tip_intro f3 (needS_intro (by simp only [Bool.and_eq_true, nbeq_t, Nat.ble_eq, true_and]; omega) (hget_intro q1 (needS_intro (by rw [q2]; rfl) ⟨_, rfl, rfl, rfl, rfl, rfl, q3, trivial⟩)))))
        · rintro g _ hc
          try dsimp only at hc ⊢
          refine ⟨⟨(g, ⟨st.l ++ [⟨1, a, st.next, op, im, iv⟩], st.next + ks.length, st.vars⟩, 0), ?_⟩, ?_⟩
          · repeat (refine And.intro (by first | rfl | exact True.intro) ?_)
            refine ⟨⟨?_, hc, Nat.zero_le _, ?_⟩, trivial⟩
            · rw [comp, if_neg (by omega)]
              rfl
            · simp only [List.drop_zero, List.length_append, List.length_cons, List.length_nil]
              omega
          · rintro ⟨g2, st2, i⟩ _ ⟨he, hc2, hi, hb7⟩
            simp only at he hc2 hi hb7 ⊢
            refine brS_intro (fun c => ?_) (fun c => ?_)
            · rw [decide_eq_true_eq] at c
              have hlt : i < ks.length := by omega
              rw [comps_step hlt] at he
              rw [nums_drop hlt] at hb7
              have hwi : IntKind.i64.wrap (st.next + i) = st.next + i := IntWalk.i64_in _ (by omega)
              simp only [tn]
              have hki := num_lt (List.getElem_mem hlt)
              have hkw := wf_kid hkw (List.getElem_mem hlt)
              have hnp := num_pos ks[i]
              have hln := len_nums (ks.drop (i + 1))
              rw [List.length_drop] at hln
              refine needS_intro (by simp; omega) (ldT hlt rfl ⟨ks[i].ks, st2, ⟨rfl, rfl⟩, hc2, ?_, ?_, fun h2 hg2 => ⟨(h2, comp ks[i] (st.next + i) st2, i + 1), ?_⟩⟩)
              · rw [eta]; exact ⟨by omega, hkw⟩
              · rw [eta, hwi]; omega
              · rw [eta, hwi] at hg2
                repeat (refine And.intro (by first | rfl | exact True.intro) ?_)
                refine ⟨by rw [IntWalk.i64_in _ (by omega)]; rfl, ?_⟩
                repeat (refine And.intro (by first | rfl | exact True.intro) ?_)
                have hbd := comp_bd ks[i] (st.next + i) st2 hkw hb7.2.2.2
                exact ⟨⟨he, hg2, hlt, by simp only; omega⟩, by simp only; omega⟩
            · rw [decide_eq_false_iff_not] at c
              rw [comps_end (by omega)] at he
              subst he
              exact hk _ hc2
    · exact hk.elim
def cVisit := addC 36 (fun xs h K => ∃ d, kVisit d xs h K) cCompile
theorem okVisit : Sound env cVisit := sound_add (fun xs h Q hk => hk.elim fun d hk => rVisit d xs h Q hk) (okCompile)

def kRCompile (xs : List IV) (h : Heap) (K : IV → Heap → Prop) : Prop := match xs with
  | [.agg [.int .i64 v, .int .i64 op, .int .i64 im, .int .i64 iv, .vslice none e1 n1 5 c1]] => ∃ ks : List T, (n1 = ks.length ∧ c1 = cTs ks) ∧ (T.mk v op im iv ks).num ≤ 1000000 ∧ K (.tuple [.vslice none 0 ((compB (T.mk v op im iv ks)).1).length 6 (((compB (T.mk v op im iv ks)).1).flatMap cI), .vslice none 0 ((compB (T.mk v op im iv ks)).2).length 1 (((compB (T.mk v op im iv ks)).2).map (IV.int .i64))]) h
  | _ => False
noncomputable def z18a  := IV.tuple [.vslice none 0 0 6 [], IV.vslice none 0 0 1 []]
noncomputable def z18b (o3 l4 : Nat) (r5 : List IV) := [IV.vslice none 0 0 6 [], IV.vslice none 0 l4 1 (List.take (l4 * 1) (List.drop o3 r5))]
set_option maxRecDepth 100000 in
theorem vRCompile (v op im iv : Int) (ks : List T) (e1 : Nat) (h : Heap) (Q : IV → Heap → Prop) : dF (stdS cVisit) env 18 noU noI noI [.agg [.int .i64 v, .int .i64 op, .int .i64 im, .int .i64 iv, .vslice none e1 (ks).length 5 (cTs ks)]] h Q = (
  needS (pureL [IV.agg [.int .i64 v, IV.int .i64 op, IV.int .i64 im, IV.int .i64 iv, IV.vslice none 0 ks.length 5 (cTs ks)]]) (∃ (ks_1 : List T), (ks.length = ks_1.length ∧ cTs ks = cTs ks_1) ∧ (thins ks_1 ∧ ks_1.length ≤ (1000000000000000
 : Nat)) ∧ brS (!valB (T.mk v op im iv ks_1) (6 : Int) (6 : Int)) (Q z18a h) (∃ (d : Nat), ∃ (ks_2 : List T), ∃ (st : St), (ks.length = ks_2.length ∧ cTs ks = cTs ks_2) ∧ CS false (Heap.mk (PT.node PT.nil (some (IObj.cells [IV.nilslice, IV.nilslice, IV.int .i64 1])) PT.nil) ((0
 : Nat) + 1)) (0 : Nat) st ∧ (T.num (T.mk v op im iv ks_2) ≤ d ∧ T.wf (T.mk v op im iv ks_2)) ∧ (((0 : Int) ≤ 0 ∧ (0 : Int) ≤ 1000000000 ∧ 0 ≤ St.next st ∧ St.next st + (↑(T.num (T.mk v op im iv ks_2)) : Int) ≤ 1000000000 ∧ List.length (St.l st) + T.num (T.mk v
 op im iv ks_2) ≤ 1000000000) ∧ List.length (St.vars st) ≤ 6) ∧ ∀ (h2 : Heap), CS false h2 (0 : Nat) (comp (T.mk v op im iv ks_2) (0 : Int) st) → hgetS h2 0 fun r0 => ldNVS 6 r0 0 (hgetS h2 0 fun r1 => ldNHS 1 r1 1
 (Q z18a h) fun (i2 o3 l4 : Nat) => hgetS h2 i2 fun r5 => needS (true && Nat.ble (o3 + l4 * 1) r5.length) (needS (pureL (z18b o3 l4 r5)) (Q (.tuple (z18b o3 l4 r5)) h))) fun (i6 e7 l8 : Nat) (c9 : List IV) => hgetS h2 0 fun r10 => ldNHS 1 r10 (1
 : Nat) (needS (pureL [IV.vslice none 0 l8 6 c9, IV.vslice none 0 0 1 []]) (Q (.tuple [.vslice none 0 l8 6 c9, IV.vslice none 0 0 1 []]) h)) fun (i11 o12 l13 : Nat) => hgetS h2 i11 fun r14 => needS (true &&
 Nat.ble (o12 + l13 * 1) r14.length) (needS (pureL [IV.vslice none 0 l8 6 c9, IV.vslice none 0 l13 1 (List.take (l13 * 1) (List.drop o12 r14))]) (Q (.tuple [.vslice none 0 l8 6 c9, IV.vslice none 0 l13 1 (List.take
 (l13 * 1) (List.drop o12 r14))]) h))))) := by kernel_rfl
set_option maxHeartbeats 2000000 in
theorem sRCompile : ∀ xs h Q, kRCompile xs h Q → CallW env 18 xs h Q := by
  intro xs h Q hk
  unfold kRCompile at hk
  split at hk
  · rename_i v op im iv e1 n1 c1
    obtain ⟨ks, ⟨rfl, rfl⟩, hb, hk⟩ := hk
    refine dF_run (okVisit) (vRCompile v op im iv ks e1 h Q) ?_
    delta z18a z18b
    have hnum : (T.mk v op im iv ks).num = nums ks + 1 := rfl
    rw [hnum] at hb
    have hlen := len_nums ks
    have fin : ∀ (l : List Ins) (vs : List Int), compB (T.mk v op im iv ks) = (l, vs) → needS (pureL [.vslice none 0 l.length 6 (l.flatMap cI), .vslice none 0 vs.length 1 (vs.map (IV.int .i64))]) (Q (.tuple [.vslice none 0 l.length 6 (l.flatMap cI), .vslice none 0 vs.length 1 (vs.map (IV.int .i64))]) h) := by
      intro l vs e
      rw [e] at hk
      exact needS_intro (by simp only [pureL, pureB, pureL_cI, pureL_ints, Bool.and_true]) hk
    refine needS_intro (by simp only [pureL, pureB, pureL_cTs, Bool.and_true]) ⟨ks, ⟨rfl, rfl⟩, ⟨thins_nums ks (by omega), by omega⟩, brS_intro (fun c => ?_) (fun c => ?_)⟩
    · have e : compB (T.mk v op im iv ks) = ([], []) := by
        unfold compB
        rw [if_neg (by simpa using c)]
      rw [e] at hk
      exact hk
    · rw [Bool.not_eq_false'] at c
      have hw := (valB_wf c).1
      have he : compB (T.mk v op im iv ks) = ((comp (T.mk v op im iv ks) 0 ⟨[], 1, []⟩).l, (comp (T.mk v op im iv ks) 0 ⟨[], 1, []⟩).vars) := by
        unfold compB
        rw [if_pos c]
      refine ⟨(T.mk v op im iv ks).num, ks, ⟨[], 1, []⟩, ⟨rfl, rfl⟩, ⟨Nat.zero_lt_one, .nilslice, .nilslice, rfl, .inl ⟨rfl, rfl⟩, .inl ⟨rfl, rfl⟩⟩, ⟨Nat.le_refl _, hw⟩, ⟨by rw [hnum]; simp only [List.length_nil]; omega, Nat.zero_le _⟩, fun h2 hc => ?_⟩
      have f1 := fin _ _ he
      generalize comp (T.mk v op im iv ks) 0 ⟨[], 1, []⟩ = st at *
      rcases hc.getL with ⟨hl0, r, e1, e2⟩ | ⟨r, i, e1, e2, e3, e4⟩
      · rcases hc.getV with ⟨hv0, r', g1, g2⟩ | ⟨r', j, g1, g2, g3, g4, g5⟩
        · rw [e1] at g1
          cases g1
          rw [hl0, hv0] at f1
          exact hget_intro e1 (ldNV_nil e2 (hget_intro e1 (ldNH_nil g2 f1)))
        · rw [e1] at g1
          cases g1
          rw [hl0] at f1
          refine hget_intro e1 (ldNV_nil e2 (hget_intro e1 (ldNH_h g2 (hget_intro g3 (needS_intro (by simp) ?_)))))
          rw [List.drop_zero, List.take_of_length_le (by simp)]
          exact f1
      · rcases hc.getV with ⟨hv0, r', g1, g2⟩ | ⟨r', j, g1, g2, g3, g4, g5⟩
        · rw [e1] at g1
          cases g1
          rw [hv0] at f1
          exact hget_intro e1 (ldNV_v e2 (hget_intro e1 (ldNH_nil g2 f1)))
        · rw [e1] at g1
          cases g1
          refine hget_intro e1 (ldNV_v e2 (hget_intro e1 (ldNH_h g2 (hget_intro g3 (needS_intro (by simp) ?_)))))
          rw [List.drop_zero, List.take_of_length_le (by simp)]
          exact f1
  · exact hk.elim
def cRCompile := addC 18 kRCompile cVisit
theorem okRCompile : Sound env cRCompile := sound_add sRCompile (okVisit)

def insInv (l : List Ins) : Inv' := atX Nat (fun x => [(0, .v (.vslice none 0 l.length 6 (l.flatMap cI))), (1, .v (.vslice none 0 l.length 6 (l.flatMap cI))), (12, .v (.int .i64 l.length)), (13, .v (.int .i64 x))]) (fun _ => []) (fun _ => Heap.empty) (fun x => x ≤ l.length) (fun x => l.length - x)
def kInsts (xs : List IV) (h : Heap) (K : IV → Heap → Prop) : Prop := match xs with
  | [.vslice none e1 n1 6 c1, .vslice none e2 n2 6 c2] => ∃ l : List Ins, (n1 = l.length ∧ c1 = l.flatMap cI) ∧ (n2 = l.length ∧ c2 = l.flatMap cI) ∧ l.length ≤ 1000000 ∧ K (.bool true) h
  | _ => False
noncomputable def z19c (l : List Ins) := List.flatMap cI l
noncomputable def z19a (l : List Ins) := TV.v (.vslice none 0 l.length 6 (z19c l))
noncomputable def z19b (l : List Ins) := TV.v (.int .i64 (↑l.length : Int))
noncomputable def z19d (x : Nat) := Int.toNat (↑x : Int) * 6 + (1 : Nat) + 1 + (1 : Nat) + 1 + (1 : Nat)
noncomputable def z19e (x : Nat) := Int.toNat (↑x : Int) * 6 + (1 : Nat) + 1 + (1 : Nat) + 1
set_option maxRecDepth 100000 in
theorem vInsts (l : List Ins) (e1 e2 : Nat) (h : Heap) (Q : IV → Heap → Prop) : dF (stdS cRCompile) env 19 noU (ic1 5 (insInv l)) noI [.vslice none e1 l.length 6 (l.flatMap cI), .vslice none e2 l.length 6 (l.flatMap cI)] h Q = (
  needS (pureL [IV.vslice none 0 l.length 6 (z19c l), IV.vslice none 0 l.length 6 (z19c l)]) (brS ((↑l.length : Int) != (↑l.length : Int)) (Q (.bool false) h) ((∃ (x : Nat), some (z19a l) = some (z19a l) ∧ some (z19a l) = some (z19a l) ∧ some
 (z19b l) = some (z19b l) ∧ some (TV.v (.int .i64 0)) = some (TV.v (.int .i64 (↑x : Int))) ∧ Heap.mk PT.nil 0 = Heap.mk PT.nil 0 ∧ Nat.le x l.length ∧ True) ∧ ∀ (x : Nat) (b : FF), x ≤ l.length → brS (decide ((↑x : Int) < (↑l.length : Int)))
 (needS (decide (0 ≤ (↑x : Int)) && decide ((↑x : Int) < (↑l.length : Int))) (ldIS .i64 (z19c l) (Int.toNat (↑x : Int) * 6) fun n0 => ldIS .i64 (z19c l) (Int.toNat (↑x : Int) * 6 + (1 : Nat)) fun n1 => ldIS .i64 (z19c l) (Int.toNat (↑x
 : Int) * 6 + (1 : Nat) + 1) fun n2 => ldIS .i64 (z19c l) (Int.toNat (↑x : Int) * 6 + (1 : Nat) + 1 + (1 : Nat)) fun n3 => ldIS .i64 (z19c l) (z19e x) fun n4 => ldIS .i64 (z19c l) (z19d x) fun n5 => needS (decide ((0
 : Int) ≤ (↑x : Int)) && decide ((↑x : Int) < (↑l.length : Int))) (ldIS .i64 (z19c l) (Int.toNat (↑x : Int) * 6) fun n6 => ldIS .i64 (z19c l) (Int.toNat (↑x : Int) * 6 + (1 : Nat)) fun n7 => ldIS .i64 (z19c l) (Int.toNat (↑x : Int) * 6
 + (1 : Nat) + 1) fun n8 => ldIS .i64 (z19c l) (Int.toNat (↑x : Int) * 6 + (1 : Nat) + 1 + (1 : Nat)) fun n9 => ldIS .i64 (z19c l) (z19e x) fun n10 => ldIS .i64 (z19c l) (z19d x) fun n11 => brS (!(n0 == n6 && (n1 == n7 && (n2
 == n8 && (n3 == n9 && (n4 == n10 && (n5 == n11 && true))))))) (Q (.bool false) h) (∃ (x_1 : Nat), some (z19a l) = some (z19a l) ∧ some (z19a l) = some (z19a l) ∧ some (z19b l) = some (z19b l) ∧ some (TV.v (.int .i64 (IntKind.wrap .i64 ((↑x : Int) + 1)))) = some (TV.v (.int
 .i64 (↑x_1 : Int))) ∧ Heap.mk PT.nil 0 = Heap.mk PT.nil 0 ∧ Nat.le x_1 l.length ∧ l.length - x_1 < l.length - x)))) (Q (.bool true) h)))) := by kernel_rfl
set_option maxHeartbeats 1000000 in
theorem sInsts : ∀ xs h Q, kInsts xs h Q → CallW env 19 xs h Q := by
  intro xs h Q hk
  unfold kInsts at hk
  split at hk
  · rename_i e1 n1 c1 e2 n2 c2
    obtain ⟨l, ⟨rfl, rfl⟩, ⟨rfl, rfl⟩, hb, hk⟩ := hk
    refine dF_run (okRCompile) (vInsts l e1 e2 h Q) ?_
    delta z19a z19b z19c z19d z19e
    have tn : ∀ x : Nat, (x : Int).toNat = x := Int.toNat_natCast
    refine needS_intro (by simp only [pureL, pureB, pureL_cI, Bool.and_true]) (brS_intro (fun c => by simp at c) (fun _ => ⟨⟨0, (by first | rfl | exact True.intro), (by first | rfl | exact True.intro), (by first | rfl | exact True.intro), (by first | rfl | exact True.intro), (by first | rfl | exact True.intro), Nat.zero_le _, trivial⟩, ?_⟩))
    rintro i _ hi
    refine brS_intro (fun c => ?_) (fun _ => hk)
    rw [decide_eq_true_eq] at c
    have hlt : i < l.length := by omega
    simp only [tn]
    refine needS_intro (by simp; omega) (ldIns hlt rfl (needS_intro (by simp; omega) (ldIns hlt rfl (brS_intro (fun c => by simp at c) (fun _ => ⟨i + 1, (by first | rfl | exact True.intro), (by first | rfl | exact True.intro), (by first | rfl | exact True.intro), (by rw [IntWalk.i64_in _ (by omega)]; rfl), (by first | rfl | exact True.intro), hlt, by omega⟩)))))
  · exact hk.elim
def cInsts := addC 19 kInsts cRCompile
theorem okInsts : Sound env cInsts := sound_add sInsts (okRCompile)

def itsInv (l : List Int) : Inv' := atX Nat (fun x => [(0, .v (.vslice none 0 (l).length 1 ((l).map (IV.int .i64)))), (1, .v (.vslice none 0 (l).length 1 ((l).map (IV.int .i64)))), (12, .v (.int .i64 l.length)), (13, .v (.int .i64 x))]) (fun _ => []) (fun _ => Heap.empty) (fun x => x ≤ l.length) (fun x => l.length - x)
def kLInts (xs : List IV) (h : Heap) (K : IV → Heap → Prop) : Prop := match xs with
  | [.vslice none e1 n1 1 c1, .vslice none e2 n2 1 c2] => ∃ l : List Int, (n1 = l.length ∧ c1 = l.map (IV.int .i64)) ∧ (n2 = l.length ∧ c2 = l.map (IV.int .i64)) ∧ l.length ≤ 1000000 ∧ K (.bool true) h
  | _ => False
noncomputable def z20c (l : List Int) := List.map (IV.int .i64) l
noncomputable def z20a (l : List Int) := TV.v (.vslice none 0 l.length 1 (z20c l))
noncomputable def z20b (l : List Int) := TV.v (.int .i64 (↑l.length : Int))
set_option maxRecDepth 100000 in
theorem vLInts (l : List Int) (e1 e2 : Nat) (h : Heap) (Q : IV → Heap → Prop) : dF (stdS cInsts) env 20 noU (ic1 5 (itsInv l)) noI [.vslice none e1 (l).length 1 ((l).map (IV.int .i64)), .vslice none e2 (l).length 1 ((l).map (IV.int .i64))] h Q = (
  needS (pureL [IV.vslice none 0 l.length 1 (z20c l), IV.vslice none 0 l.length 1 (z20c l)]) (brS ((↑l.length : Int) != (↑l.length : Int)) (Q (.bool false) h) ((∃ (x : Nat), some (z20a l) = some (z20a l) ∧ some (z20a l) = some (z20a l) ∧ some
 (z20b l) = some (z20b l) ∧ some (TV.v (.int .i64 0)) = some (TV.v (.int .i64 (↑x : Int))) ∧ Heap.mk PT.nil 0 = Heap.mk PT.nil 0 ∧ Nat.le x l.length ∧ True) ∧ ∀ (x : Nat) (b : FF), x ≤ l.length → brS (decide ((↑x : Int) < (↑l.length : Int)))
 (needS (decide (0 ≤ (↑x : Int)) && decide ((↑x : Int) < (↑l.length : Int))) (ldIS .i64 (z20c l) (Int.toNat (↑x : Int) * 1) fun n0 => needS (decide (0 ≤ (↑x : Int)) && decide ((↑x : Int) < (↑l.length : Int))) (ldIS .i64 (z20c l) (Int.toNat (↑x
 : Int) * 1) fun n1 => brS (n0 != n1) (Q (.bool false) h) (∃ (x_1 : Nat), some (z20a l) = some (z20a l) ∧ some (z20a l) = some (z20a l) ∧ some (z20b l) = some (z20b l) ∧ some (TV.v (.int .i64 (IntKind.wrap .i64 ((↑x : Int) + 1)))) = some (TV.v (.int .i64
 (↑x_1 : Int))) ∧ Heap.mk PT.nil 0 = Heap.mk PT.nil 0 ∧ Nat.le x_1 l.length ∧ l.length - x_1 < l.length - x)))) (Q (.bool true) h)))) := by kernel_rfl
set_option maxHeartbeats 1000000 in
theorem sLInts : ∀ xs h Q, kLInts xs h Q → CallW env 20 xs h Q := by
  intro xs h Q hk
  unfold kLInts at hk
  split at hk
  · rename_i e1 n1 c1 e2 n2 c2
    obtain ⟨l, ⟨rfl, rfl⟩, ⟨rfl, rfl⟩, hb, hk⟩ := hk
    refine dF_run (okInsts) (vLInts l e1 e2 h Q) ?_
    delta z20a z20b z20c
    have tn : ∀ x : Nat, (x : Int).toNat = x := Int.toNat_natCast
    refine needS_intro (by simp only [pureL, pureB, pureL_ints, Bool.and_true]) (brS_intro (fun c => by simp at c) (fun _ => ⟨⟨0, (by first | rfl | exact True.intro), (by first | rfl | exact True.intro), (by first | rfl | exact True.intro), (by first | rfl | exact True.intro), (by first | rfl | exact True.intro), Nat.zero_le _, trivial⟩, ?_⟩))
    rintro i _ hi
    refine brS_intro (fun c => ?_) (fun _ => hk)
    rw [decide_eq_true_eq] at c
    have hlt : i < l.length := by omega
    simp only [tn]
    refine needS_intro (by simp; omega) (ldIo hlt (Nat.mul_one _) (needS_intro (by simp; omega) (ldIo hlt (Nat.mul_one _) (brS_intro (fun c => by simp at c) (fun _ => ⟨i + 1, (by first | rfl | exact True.intro), (by first | rfl | exact True.intro), (by first | rfl | exact True.intro), (by rw [IntWalk.i64_in _ (by omega)]; rfl), (by first | rfl | exact True.intro), hlt, by omega⟩)))))
  · exact hk.elim
def cLInts := addC 20 kLInts cInsts
theorem okLInts : Sound env cLInts := sound_add sLInts (okInsts)

end Go.Proofs.Ytmfnadojephcpaa
